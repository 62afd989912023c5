/-
  Tokens of values: value.tokens, Tokens.
  The package value: Same; the library's EqualFunc.
  The writer: a state, its methods.
-/
import Derived.Test.YtegakkonlhmeaaaGreatDoorGSA6
import Derived.Test.YtegakkonlhmeaaaGreatDoorGSA1
import Derived.Test.YtegakkonlhmeaaaGreatDoorAvFun
import Derived.Test.YtegakkonlhmeaaaGreatDoorGSA4
set_option linter.unusedVariables false
set_option linter.unusedSimpArgs false
namespace Go.Proofs.YtegakkonlhmeaaaGreatDoor
open Go Go.Av
set_option maxRecDepth 100000
set_option maxHeartbeats 16000000
attribute [local irreducible] HCode AOps PFn AFn Av.Step TStep

theorem okL_mem : ∀ {l : List Val} {x : Val}, Val.okL l → x ∈ l → x.ok
  | v :: l, x, h, hx => by
    rw [Val.okL] at h
    cases hx with
    | head => exact h.1
    | tail _ hx => exact okL_mem h.2 hx
theorem okM_mem : ∀ {l : List Mem} {x : Mem}, Val.okM l → x ∈ l → x.v.ok
  | .mk _ v :: l, x, h, hx => by
    rw [Val.okM] at h
    cases hx with
    | head => exact h.1
    | tail _ hx => exact okM_mem h.2 hx
theorem Val.ok_l {v : Val} (h : v.ok) {x : Val} (hx : x ∈ v.l) : x.ok := by
  cases v; rw [Val.ok] at h; exact okL_mem h.2.2.1 hx
theorem Val.ok_m {v : Val} (h : v.ok) {x : Mem} (hx : x ∈ v.m) : x.v.ok := by
  cases v; rw [Val.ok] at h; exact okM_mem h.2.2.2 hx
theorem Val.ok_n {v : Val} (h : v.ok) : -9223372036854775808 ≤ v.n ∧ v.n ≤ 9223372036854775807 := by
  cases v
  rw [Val.ok] at h
  have := h.2.1
  unfold Lit.wf IntKind.min IntKind.max at this
  rw [Bool.and_eq_true, decide_eq_true_eq, decide_eq_true_eq] at this
  exact ⟨this.1, this.2⟩

/-- What tokens does to a slice that grows. -/
abbrev ToksC (v : Val) (xs : List Tkn) : Prop := AFn Tryz.prog 289 [.slice (xs.map Tkn.enc) (.own 0 2), v.enc] ⟨[], [.len xs.length]⟩ (fun e σ => e = .ret (.slice ((xs ++ toksV v).map Tkn.enc) (.own 0 2)) ∧ σ = ⟨[], [.len (xs ++ toksV v).length]⟩)
theorem tok_end (xs ys : List Tkn) {n : Nat} {s : Slots} {t : Nat} {l : List AV} (hl : lk? s t = some (.slice l (.own 0 2))) (h1 : l = (xs ++ ys).map Tkn.enc) (h2 : n = (xs ++ ys).length) :
    AEnd.ret (resAV s [t]) = .ret (.slice ((xs ++ ys).map Tkn.enc) (.own 0 2)) ∧ (⟨[], [.len n]⟩ : St) = ⟨[], [.len (xs ++ ys).length]⟩ := by
  subst h1; subst h2
  exact ⟨congrArg AEnd.ret (lk_of hl), rfl⟩
theorem toksBody (v : Val) (hv : v.size ≤ 68719476736) (ho : v.ok) (ihL : ∀ x ∈ v.l, ∀ xs : List Tkn, xs.length + 2 * x.size ≤ 1099511627776 → ToksC x xs) (ihM : ∀ x ∈ v.m, ∀ xs : List Tkn, xs.length + 2 * x.v.size ≤ 1099511627776 → ToksC x.v xs) (xs : List Tkn) (hxs : xs.length + 2 * v.size ≤ 1099511627776) :
    HCode Tryz.prog Tryz.f289.ntmps [] (bodyOf Tryz.f289) (fin [4] (fun e σ => e = .ret (.slice ((xs ++ toksV v).map Tkn.enc) (.own 0 2)) ∧ σ = ⟨[], [.len (xs ++ toksV v).length]⟩))
      [(0, .slice (xs.map Tkn.enc) (.own 0 2)), (1, v.enc)] ⟨[], [.len xs.length]⟩ := by
  have hll := v.l_len
  have hml := v.m_len
  have hsp := v.size_parts
  have hpos := v.size_pos
  have hse := v.size_eq
  rw [← Val.sizeL_eq, ← Val.sizeM_eq] at hse
  have hw := v_word
  have hp := v_punct
  rw [toksV_eq]
  by_cases k0 : v.kind = 0
  · have q0 : (v.kind == 0) = true := by simp [k0]
    rw [if_pos k0]
    have h1 := v_word sNull
    repeat' first
      | refine .br ?_
      | refine .seq ?_ | refine .rg ?_ | refine .rd ?_ | refine .block ?_ | refine .scope ?_ | refine .skip ?_ | refine .label ?_ | refine .exit ?_ | refine .ret ?_
      | refine .ct ?_ | refine .cf ?_ | refine .cy ?_ | refine .cn ?_ | (refine .cond rfl ?_ ?_ <;> intro hc)
      | refine A.nil_seq ?_ | refine .nl ?_ | refine .dd ?_ | refine .ys ?_ | refine .no ?_ | (refine A.guard rfl ?_ ?_ <;> intro hc)
      | refine .lb ?_ | refine .ln ?_ | refine .ls ?_ | refine .pv ?_ | refine .ix ?_ | refine .pt ?_ | refine .pf ?_ | refine .bx ?_ | refine .al ?_ | refine .st ?_ | refine .ad ?_ | refine .sb ?_ | refine .mf ?_ | refine .cl ?_ | refine .cw ?_ | refine .ck ?_
      | refine A.call rfl h1 (WeakL.refl _) ?_ | refine A.call rfl h2 (WeakL.refl _) ?_ | refine A.append (n := xs.length) rfl rfl rfl rfl rfl rfl rfl rfl (List.length_map ..) rfl (by dsimp only [List.length_cons, List.length_nil]; omega) (by dsimp only [List.length_cons, List.length_nil]; omega) rfl ?_ | fail
    exact tok_end xs _ rfl (by rw [List.map_append]; rfl) (by rw [List.length_append]; rfl)
  have q0 : (v.kind == 0) = false := by simp [k0]
  rw [if_neg k0]
  by_cases k1 : v.kind = 1
  · have q1 : (v.kind == 1) = true := by simp [k1]
    rw [if_pos k1]
    have h1 := fmtBool (v.n == 1); have h2 := v_word (boolS (v.n == 1))
    repeat' first
      | refine .br ?_
      | refine .seq ?_ | refine .rg ?_ | refine .rd ?_ | refine .block ?_ | refine .scope ?_ | refine .skip ?_ | refine .label ?_ | refine .exit ?_ | refine .ret ?_
      | refine .ct ?_ | refine .cf ?_ | refine .cy ?_ | refine .cn ?_ | (refine .cond rfl ?_ ?_ <;> intro hc)
      | refine A.nil_seq ?_ | refine .nl ?_ | refine .dd ?_ | refine .ys ?_ | refine .no ?_ | (refine A.guard rfl ?_ ?_ <;> intro hc)
      | refine .lb ?_ | refine .ln ?_ | refine .ls ?_ | refine .pv ?_ | refine .ix ?_ | refine .pt ?_ | refine .pf ?_ | refine .bx ?_ | refine .al ?_ | refine .st ?_ | refine .ad ?_ | refine .sb ?_ | refine .mf ?_ | refine .cl ?_ | refine .cw ?_ | refine .ck ?_
      | refine A.call rfl h1 (WeakL.refl _) ?_ | refine A.call rfl h2 (WeakL.refl _) ?_ | refine A.append (n := xs.length) rfl rfl rfl rfl rfl rfl rfl rfl (List.length_map ..) rfl (by dsimp only [List.length_cons, List.length_nil]; omega) (by dsimp only [List.length_cons, List.length_nil]; omega) rfl ?_ | fail
    exact tok_end xs _ rfl (by rw [List.map_append]; rfl) (by rw [List.length_append]; rfl)
  have q1 : (v.kind == 1) = false := by simp [k1]
  rw [if_neg k1]
  by_cases k2 : v.kind = 2
  · have q2 : (v.kind == 2) = true := by simp [k2]
    rw [if_pos k2]
    have h1 := formatInt v.n (Val.ok_n ho).1 (Val.ok_n ho).2
    repeat' first
      | refine .br ?_
      | refine .seq ?_ | refine .rg ?_ | refine .rd ?_ | refine .block ?_ | refine .scope ?_ | refine .skip ?_ | refine .label ?_ | refine .exit ?_ | refine .ret ?_
      | refine .ct ?_ | refine .cf ?_ | refine .cy ?_ | refine .cn ?_ | (refine .cond rfl ?_ ?_ <;> intro hc)
      | refine A.nil_seq ?_ | refine .nl ?_ | refine .dd ?_ | refine .ys ?_ | refine .no ?_ | (refine A.guard rfl ?_ ?_ <;> intro hc)
      | refine .lb ?_ | refine .ln ?_ | refine .ls ?_ | refine .pv ?_ | refine .ix ?_ | refine .pt ?_ | refine .pf ?_ | refine .bx ?_ | refine .al ?_ | refine .st ?_ | refine .ad ?_ | refine .sb ?_ | refine .mf ?_ | refine .cl ?_ | refine .cw ?_ | refine .ck ?_
      | refine A.call rfl h1 (WeakL.refl _) ?_ | refine A.call rfl h2 (WeakL.refl _) ?_ | refine A.append (n := xs.length) rfl rfl rfl rfl rfl rfl rfl rfl (List.length_map ..) rfl (by dsimp only [List.length_cons, List.length_nil]; omega) (by dsimp only [List.length_cons, List.length_nil]; omega) rfl ?_ | fail
    exact tok_end xs _ rfl (by rw [List.map_append]; rfl) (by rw [List.length_append]; rfl)
  have q2 : (v.kind == 2) = false := by simp [k2]
  rw [if_neg k2]
  by_cases k3 : v.kind = 3
  · have q3 : (v.kind == 3) = true := by simp [k3]
    rw [if_pos k3]
    have h1 := tNumber v.s (by have := v.size_eq; omega)
    repeat' first
      | refine .br ?_
      | refine .seq ?_ | refine .rg ?_ | refine .rd ?_ | refine .block ?_ | refine .scope ?_ | refine .skip ?_ | refine .label ?_ | refine .exit ?_ | refine .ret ?_
      | refine .ct ?_ | refine .cf ?_ | refine .cy ?_ | refine .cn ?_ | (refine .cond rfl ?_ ?_ <;> intro hc)
      | refine A.nil_seq ?_ | refine .nl ?_ | refine .dd ?_ | refine .ys ?_ | refine .no ?_ | (refine A.guard rfl ?_ ?_ <;> intro hc)
      | refine .lb ?_ | refine .ln ?_ | refine .ls ?_ | refine .pv ?_ | refine .ix ?_ | refine .pt ?_ | refine .pf ?_ | refine .bx ?_ | refine .al ?_ | refine .st ?_ | refine .ad ?_ | refine .sb ?_ | refine .mf ?_ | refine .cl ?_ | refine .cw ?_ | refine .ck ?_
      | refine A.call rfl h1 (WeakL.refl _) ?_ | refine A.call rfl h2 (WeakL.refl _) ?_ | refine A.append (n := xs.length) rfl rfl rfl rfl rfl rfl rfl rfl (List.length_map ..) rfl (by dsimp only [List.length_cons, List.length_nil]; omega) (by dsimp only [List.length_cons, List.length_nil]; omega) rfl ?_ | fail
    exact tok_end xs _ rfl (by rw [List.map_append]; rfl) (by rw [List.length_append]; rfl)
  have q3 : (v.kind == 3) = false := by simp [k3]
  rw [if_neg k3]
  by_cases k4 : v.kind = 4
  · have q4 : (v.kind == 4) = true := by simp [k4]
    rw [if_pos k4]
    skip
    repeat' first
      | refine .br ?_
      | refine .seq ?_ | refine .rg ?_ | refine .rd ?_ | refine .block ?_ | refine .scope ?_ | refine .skip ?_ | refine .label ?_ | refine .exit ?_ | refine .ret ?_
      | refine .ct ?_ | refine .cf ?_ | refine .cy ?_ | refine .cn ?_ | (refine .cond rfl ?_ ?_ <;> intro hc)
      | refine A.nil_seq ?_ | refine .nl ?_ | refine .dd ?_ | refine .ys ?_ | refine .no ?_ | (refine A.guard rfl ?_ ?_ <;> intro hc)
      | refine .lb ?_ | refine .ln ?_ | refine .ls ?_ | refine .pv ?_ | refine .ix ?_ | refine .pt ?_ | refine .pf ?_ | refine .bx ?_ | refine .al ?_ | refine .st ?_ | refine .ad ?_ | refine .sb ?_ | refine .mf ?_ | refine .cl ?_ | refine .cw ?_ | refine .ck ?_
      | refine A.call rfl h1 (WeakL.refl _) ?_ | refine A.call rfl h2 (WeakL.refl _) ?_ | refine A.append (n := xs.length) rfl rfl rfl rfl rfl rfl rfl rfl (List.length_map ..) rfl (by dsimp only [List.length_cons, List.length_nil]; omega) (by dsimp only [List.length_cons, List.length_nil]; omega) rfl ?_ | fail
    exact tok_end xs _ rfl (by rw [List.map_append]; rfl) (by rw [List.length_append]; rfl)
  have q4 : (v.kind == 4) = false := by simp [k4]
  rw [if_neg k4]
  by_cases k5 : v.kind = 5
  · have q5 : (v.kind == 5) = true := by simp [k5]
    rw [if_pos k5]
    have h1 := v_word v.s
    repeat' first
      | refine .br ?_
      | refine .seq ?_ | refine .rg ?_ | refine .rd ?_ | refine .block ?_ | refine .scope ?_ | refine .skip ?_ | refine .label ?_ | refine .exit ?_ | refine .ret ?_
      | refine .ct ?_ | refine .cf ?_ | refine .cy ?_ | refine .cn ?_ | (refine .cond rfl ?_ ?_ <;> intro hc)
      | refine A.nil_seq ?_ | refine .nl ?_ | refine .dd ?_ | refine .ys ?_ | refine .no ?_ | (refine A.guard rfl ?_ ?_ <;> intro hc)
      | refine .lb ?_ | refine .ln ?_ | refine .ls ?_ | refine .pv ?_ | refine .ix ?_ | refine .pt ?_ | refine .pf ?_ | refine .bx ?_ | refine .al ?_ | refine .st ?_ | refine .ad ?_ | refine .sb ?_ | refine .mf ?_ | refine .cl ?_ | refine .cw ?_ | refine .ck ?_
      | refine A.call rfl h1 (WeakL.refl _) ?_ | refine A.call rfl h2 (WeakL.refl _) ?_ | refine A.append (n := xs.length) rfl rfl rfl rfl rfl rfl rfl rfl (List.length_map ..) rfl (by dsimp only [List.length_cons, List.length_nil]; omega) (by dsimp only [List.length_cons, List.length_nil]; omega) rfl ?_ | fail
    exact tok_end xs _ rfl (by rw [List.map_append]; rfl) (by rw [List.length_append]; rfl)
  have q5 : (v.kind == 5) = false := by simp [k5]
  rw [if_neg k5]
  by_cases k8 : v.kind = 8
  · have q8 : (v.kind == 8) = true := by simp [k8]
    rw [if_pos k8]
    have h1 := v_punct [36]; have h2 := v_word v.s
    repeat' first
      | refine .br ?_
      | refine .seq ?_ | refine .rg ?_ | refine .rd ?_ | refine .block ?_ | refine .scope ?_ | refine .skip ?_ | refine .label ?_ | refine .exit ?_ | refine .ret ?_
      | refine .ct ?_ | refine .cf ?_ | refine .cy ?_ | refine .cn ?_ | (refine .cond rfl ?_ ?_ <;> intro hc)
      | refine A.nil_seq ?_ | refine .nl ?_ | refine .dd ?_ | refine .ys ?_ | refine .no ?_ | (refine A.guard rfl ?_ ?_ <;> intro hc)
      | refine .lb ?_ | refine .ln ?_ | refine .ls ?_ | refine .pv ?_ | refine .ix ?_ | refine .pt ?_ | refine .pf ?_ | refine .bx ?_ | refine .al ?_ | refine .st ?_ | refine .ad ?_ | refine .sb ?_ | refine .mf ?_ | refine .cl ?_ | refine .cw ?_ | refine .ck ?_
      | refine A.call rfl h1 (WeakL.refl _) ?_ | refine A.call rfl h2 (WeakL.refl _) ?_ | refine A.append (n := xs.length) rfl rfl rfl rfl rfl rfl rfl rfl (List.length_map ..) rfl (by dsimp only [List.length_cons, List.length_nil]; omega) (by dsimp only [List.length_cons, List.length_nil]; omega) rfl ?_ | fail
    exact tok_end xs _ rfl (by rw [List.map_append]; rfl) (by rw [List.length_append]; rfl)
  have q8 : (v.kind == 8) = false := by simp [k8]
  rw [if_neg k8]
  by_cases k6 : v.kind = 6
  · have q6 : (v.kind == 6) = true := by simp [k6]
    rw [if_pos k6]
    have h1 := v_punct [91]
    have h2 := v_punct [93]
    repeat' first
      | refine .br ?_
      | refine .seq ?_ | refine .rg ?_ | refine .rd ?_ | refine .block ?_ | refine .scope ?_ | refine .skip ?_ | refine .label ?_ | refine .exit ?_ | refine .ret ?_
      | refine .ct ?_ | refine .cf ?_ | refine .cy ?_ | refine .cn ?_ | (refine .cond rfl ?_ ?_ <;> intro hc)
      | refine A.nil_seq ?_ | refine .nl ?_ | refine .dd ?_ | refine .ys ?_ | refine .no ?_ | (refine A.guard rfl ?_ ?_ <;> intro hc)
      | refine .lb ?_ | refine .ln ?_ | refine .ls ?_ | refine .pv ?_ | refine .ix ?_ | refine .pt ?_ | refine .pf ?_ | refine .bx ?_ | refine .al ?_ | refine .st ?_ | refine .ad ?_ | refine .sb ?_ | refine .mf ?_ | refine .cl ?_ | refine .cw ?_ | refine .ck ?_
      | refine A.call rfl h1 (WeakL.refl _) ?_ | refine A.append (n := xs.length) rfl rfl rfl rfl rfl rfl rfl rfl (List.length_map ..) rfl (by dsimp only [List.length_cons, List.length_nil]; omega) (by dsimp only [List.length_cons, List.length_nil]; omega) rfl ?_ | fail
    refine HCode.forK v.l.length (fun k => [(81, .int .i64 k), (80, .int .i64 v.lv.length), (79, .slice v.lv .no), (0, .slice (((xs ++ [tP [91]]) ++ toksL (v.l.take k)).map Tkn.enc) (.own 0 2))])
      (fun k => ⟨[], [.len ((xs ++ [tP [91]]) ++ toksL (v.l.take k)).length]⟩) (fun _ => True) ⟨rfl, rfl, rfl, by rw [List.take_zero, toksL, List.append_nil, List.map_append]; rfl, trivial⟩ (by rw [List.take_zero, toksL, List.append_nil, List.length_append]; rfl) trivial fun k hk _ => ?_
    by_cases h1 : k < v.l.length
    · have d1 : decide ((k : Int) < (v.lv.length : Int)) = true := by rw [v.lv_len]; simp [h1]
      have x1 := Val.lv_get h1
      have hlen := toksL_len (v.l.take k)
      have hlt := sizeL_take v.l (k + 1)
      have hst := sizeL_succ h1
      have hcc := ihL v.l[k] (List.getElem_mem h1) ((xs ++ [tP [91]]) ++ toksL (v.l.take k)) (by simp only [List.length_append, List.length_cons, List.length_nil]; omega)
      rw [ToksC, List.append_assoc (xs ++ [tP [91]]), ← toksL_take h1] at hcc
      repeat' first
        | refine .seq ?_ | refine .rg ?_ | refine .rd ?_ | refine .block ?_ | refine .scope ?_ | refine .skip ?_ | refine .label ?_ | refine .exit ?_ | refine .ret ?_
        | refine .ct ?_ | refine .cf ?_ | refine .cy ?_ | refine .cn ?_ | (refine .cond rfl ?_ ?_ <;> intro hc)
        | refine A.nil_seq ?_ | refine .nl ?_ | refine .dd ?_ | refine .ys ?_ | refine .no ?_ | (refine A.guard rfl ?_ ?_ <;> intro hc)
        | refine .lb ?_ | refine .ln ?_ | refine .ls ?_ | refine .pv ?_ | refine .ix ?_ | refine .pt ?_ | refine .pf ?_ | refine .bx ?_ | refine .al ?_ | refine .st ?_ | refine .ad ?_ | refine .sb ?_ | refine .mf ?_ | refine .cl ?_ | refine .cw ?_ | refine .ck ?_
        | refine A.callG 0 rfl hcc rfl (Tkn.closedL _) (Tkn.closedL _) (by simp [AV.closedL, Val.closed]) (WeakL.refl _) rfl ?_ | fail
      exact ⟨h1, ⟨rfl, rfl, rfl, rfl, trivial⟩, by simp [belowS, AV.low, -List.map_append], rfl, rfl, trivial⟩
    · have d1 : decide ((k : Int) < (v.lv.length : Int)) = false := by rw [v.lv_len]; simp; omega
      obtain rfl : k = v.l.length := by omega
      have hlen := toksL_len v.l
      rw [List.take_length]
      repeat' first
        | refine .seq ?_ | refine .rg ?_ | refine .rd ?_ | refine .block ?_ | refine .scope ?_ | refine .skip ?_ | refine .label ?_ | refine .exit ?_ | refine .ret ?_
        | refine .ct ?_ | refine .cf ?_ | refine .cy ?_ | refine .cn ?_ | (refine .cond rfl ?_ ?_ <;> intro hc)
        | refine A.nil_seq ?_ | refine .nl ?_ | refine .dd ?_ | refine .ys ?_ | refine .no ?_ | (refine A.guard rfl ?_ ?_ <;> intro hc)
        | refine .lb ?_ | refine .ln ?_ | refine .ls ?_ | refine .pv ?_ | refine .ix ?_ | refine .pt ?_ | refine .pf ?_ | refine .bx ?_ | refine .al ?_ | refine .st ?_ | refine .ad ?_ | refine .sb ?_ | refine .mf ?_ | refine .cl ?_ | refine .cw ?_ | refine .ck ?_
        | refine A.call rfl h2 (WeakL.refl _) ?_ | refine A.append (n := ((xs ++ [tP [91]]) ++ toksL v.l).length) rfl rfl rfl rfl rfl rfl rfl rfl (List.length_map ..) rfl (by dsimp only [List.length_cons, List.length_nil]; simp only [List.length_append, List.length_cons, List.length_nil]; omega) (by dsimp only [List.length_cons, List.length_nil]; simp only [List.length_append, List.length_cons, List.length_nil]; omega) rfl ?_ | fail
      exact tok_end xs _ rfl (by simp only [List.map_append, List.map_cons, List.map_nil, List.append_assoc, List.cons_append, List.nil_append]; rfl) (by simp only [List.length_append, List.length_cons, List.length_nil]; omega)
  have q6 : (v.kind == 6) = false := by simp [k6]
  rw [if_neg k6]
  have h1 := v_punct [123]
  have h2 := v_punct [125]
  repeat' first
    | refine .br ?_
    | refine .seq ?_ | refine .rg ?_ | refine .rd ?_ | refine .block ?_ | refine .scope ?_ | refine .skip ?_ | refine .label ?_ | refine .exit ?_ | refine .ret ?_
    | refine .ct ?_ | refine .cf ?_ | refine .cy ?_ | refine .cn ?_ | (refine .cond rfl ?_ ?_ <;> intro hc)
    | refine A.nil_seq ?_ | refine .nl ?_ | refine .dd ?_ | refine .ys ?_ | refine .no ?_ | (refine A.guard rfl ?_ ?_ <;> intro hc)
    | refine .lb ?_ | refine .ln ?_ | refine .ls ?_ | refine .pv ?_ | refine .ix ?_ | refine .pt ?_ | refine .pf ?_ | refine .bx ?_ | refine .al ?_ | refine .st ?_ | refine .ad ?_ | refine .sb ?_ | refine .mf ?_ | refine .cl ?_ | refine .cw ?_ | refine .ck ?_
    | refine A.call rfl h1 (WeakL.refl _) ?_ | refine A.append (n := xs.length) rfl rfl rfl rfl rfl rfl rfl rfl (List.length_map ..) rfl (by dsimp only [List.length_cons, List.length_nil]; omega) (by dsimp only [List.length_cons, List.length_nil]; omega) rfl ?_ | fail
  refine HCode.forK v.m.length (fun k => [(100, .int .i64 k), (99, .int .i64 v.mv.length), (98, .slice v.mv .no), (0, .slice (((xs ++ [tP [123]]) ++ toksM (v.m.take k)).map Tkn.enc) (.own 0 2))])
    (fun k => ⟨[], [.len ((xs ++ [tP [123]]) ++ toksM (v.m.take k)).length]⟩) (fun _ => True) ⟨rfl, rfl, rfl, by rw [List.take_zero, toksM, List.append_nil, List.map_append]; rfl, trivial⟩ (by rw [List.take_zero, toksM, List.append_nil, List.length_append]; rfl) trivial fun k hk _ => ?_
  by_cases h1 : k < v.m.length
  · have d1 : decide ((k : Int) < (v.mv.length : Int)) = true := by rw [v.mv_len]; simp [h1]
    have x1 := Val.mv_get h1
    have hlen := toksM_len (v.m.take k)
    have hlt := sizeM_take v.m (k + 1)
    have hst := sizeM_succ h1
    have w1 := v_word v.m[k].name
    have w2 := v_punct [58]
    have hcc := ihM v.m[k] (List.getElem_mem h1) (((xs ++ [tP [123]]) ++ toksM (v.m.take k)) ++ [tW v.m[k].name, tP [58]]) (by simp only [List.length_append, List.length_cons, List.length_nil]; omega)
    have hcl : AV.closedL ((((xs ++ [tP [123]]) ++ toksM (v.m.take k)).map Tkn.enc) ++ [tW v.m[k].name, tP [58]].map Tkn.enc) = true := by rw [← List.map_append]; exact Tkn.closedL _
    rw [ToksC, List.map_append (l₂ := [tW v.m[k].name, tP [58]])] at hcc
    rw [show ((xs ++ [tP [123]]) ++ toksM (v.m.take k)) ++ [tW v.m[k].name, tP [58]] ++ toksV v.m[k].v = (xs ++ [tP [123]]) ++ toksM (v.m.take (k + 1)) by rw [toksM_take h1]; simp only [List.append_assoc], List.length_append (bs := [tW v.m[k].name, tP [58]])] at hcc
    repeat' first
      | refine .seq ?_ | refine .rg ?_ | refine .rd ?_ | refine .block ?_ | refine .scope ?_ | refine .skip ?_ | refine .label ?_ | refine .exit ?_ | refine .ret ?_
      | refine .ct ?_ | refine .cf ?_ | refine .cy ?_ | refine .cn ?_ | (refine .cond rfl ?_ ?_ <;> intro hc)
      | refine A.nil_seq ?_ | refine .nl ?_ | refine .dd ?_ | refine .ys ?_ | refine .no ?_ | (refine A.guard rfl ?_ ?_ <;> intro hc)
      | refine .lb ?_ | refine .ln ?_ | refine .ls ?_ | refine .pv ?_ | refine .ix ?_ | refine .pt ?_ | refine .pf ?_ | refine .bx ?_ | refine .al ?_ | refine .st ?_ | refine .ad ?_ | refine .sb ?_ | refine .mf ?_ | refine .cl ?_ | refine .cw ?_ | refine .ck ?_
      | refine A.call rfl w1 (WeakL.refl _) ?_ | refine A.call rfl w2 (WeakL.refl _) ?_ | refine A.append (n := ((xs ++ [tP [123]]) ++ toksM (v.m.take k)).length) rfl rfl rfl rfl rfl rfl rfl rfl (List.length_map ..) rfl (by dsimp only [List.length_cons, List.length_nil]; simp only [List.length_append, List.length_cons, List.length_nil]; omega) (by dsimp only [List.length_cons, List.length_nil]; simp only [List.length_append, List.length_cons, List.length_nil]; omega) rfl ?_ | refine A.callG 0 rfl hcc rfl hcl (Tkn.closedL _) (by simp [AV.closedL, Val.closed]) (WeakL.refl _) rfl ?_ | fail
    exact ⟨h1, ⟨rfl, rfl, rfl, rfl, trivial⟩, by simp [belowS, AV.low, -List.map_append], rfl, rfl, trivial⟩
  · have d1 : decide ((k : Int) < (v.mv.length : Int)) = false := by rw [v.mv_len]; simp; omega
    obtain rfl : k = v.m.length := by omega
    have hlen := toksM_len v.m
    rw [List.take_length]
    repeat' first
      | refine .seq ?_ | refine .rg ?_ | refine .rd ?_ | refine .block ?_ | refine .scope ?_ | refine .skip ?_ | refine .label ?_ | refine .exit ?_ | refine .ret ?_
      | refine .ct ?_ | refine .cf ?_ | refine .cy ?_ | refine .cn ?_ | (refine .cond rfl ?_ ?_ <;> intro hc)
      | refine A.nil_seq ?_ | refine .nl ?_ | refine .dd ?_ | refine .ys ?_ | refine .no ?_ | (refine A.guard rfl ?_ ?_ <;> intro hc)
      | refine .lb ?_ | refine .ln ?_ | refine .ls ?_ | refine .pv ?_ | refine .ix ?_ | refine .pt ?_ | refine .pf ?_ | refine .bx ?_ | refine .al ?_ | refine .st ?_ | refine .ad ?_ | refine .sb ?_ | refine .mf ?_ | refine .cl ?_ | refine .cw ?_ | refine .ck ?_
      | refine A.call rfl h2 (WeakL.refl _) ?_ | refine A.append (n := ((xs ++ [tP [123]]) ++ toksM v.m).length) rfl rfl rfl rfl rfl rfl rfl rfl (List.length_map ..) rfl (by dsimp only [List.length_cons, List.length_nil]; simp only [List.length_append, List.length_cons, List.length_nil]; omega) (by dsimp only [List.length_cons, List.length_nil]; simp only [List.length_append, List.length_cons, List.length_nil]; omega) rfl ?_ | fail
    exact tok_end xs _ rfl (by simp only [List.map_append, List.map_cons, List.map_nil, List.append_assoc, List.cons_append, List.nil_append]; rfl) (by simp only [List.length_append, List.length_cons, List.length_nil]; omega)
theorem vToksC : ∀ N : Nat, N ≤ 68719476736 → ∀ v : Val, v.size ≤ N → v.ok → ∀ xs : List Tkn, xs.length + 2 * v.size ≤ 1099511627776 → ToksC v xs
  | 0, _, v, hv => absurd hv (by have := v.size_pos; omega)
  | N + 1, hN, v, hv => fun ho xs hxs => by
    have ih := vToksC N (by omega)
    have hb := toksBody v (by omega) ho (fun x hx ys hy => ih x (by
      obtain ⟨k, hk, rfl⟩ := List.getElem_of_mem hx
      have := Val.size_l hk; omega) (Val.ok_l ho hx) ys hy) (fun x hx ys hy => ih x.v (by
      obtain ⟨k, hk, rfl⟩ := List.getElem_of_mem hx
      have := Val.size_m hk; omega) (Val.ok_m ho hx) ys hy) xs hxs
    exact AFn.enter [4] Tryz.func289 rfl rfl rfl rfl rfl (by decide) hb
theorem vToks0 (v : Val) (hv : v.size ≤ 68719476736) (ho : v.ok) : PFn Tryz.prog 289 [.slice [] .nil, v.enc] (.slice ((toksV v).map Tkn.enc) .no) := by
  have hb := toksBody v hv ho (fun x hx ys hy => vToksC 68719476736 (Nat.le_refl _) x (by
    obtain ⟨k, hk, rfl⟩ := List.getElem_of_mem hx
    have := Val.size_l hk; omega) (Val.ok_l ho hx) ys hy) (fun x hx ys hy => vToksC 68719476736 (Nat.le_refl _) x.v (by
    obtain ⟨k, hk, rfl⟩ := List.getElem_of_mem hx
    have := Val.size_m hk; omega) (Val.ok_m ho hx) ys hy) [] (by simp only [List.length_nil]; omega)
  refine AFn.plain (by simp [AV.closed, Tkn.closedL]) (by simp [AV.closed, AV.closedL, Val.closed]) (AFn.enter [4] Tryz.func289 rfl rfl rfl rfl rfl (by decide) ?_)
  refine HCode.adopt 0 false 2 rfl rfl rfl rfl rfl rfl ?_
  refine HCode.weaken (s := [(0, .slice [] (.own 0 2)), (1, v.enc)]) (hb.mono fun e s σ h => ?_) ⟨rfl, rfl, trivial⟩
  cases e with
  | normal => exact ⟨_, h.1, Weak.no (WeakL.refl _)⟩
  | ret => exact ⟨_, h.1, Weak.no (WeakL.refl _)⟩
  | pan x => exact absurd h.1 (by simp)
  | exit id => exact h
  | goto l => exact h
theorem vTokens (v : Val) (hv : v.size ≤ 68719476736) (ho : v.ok) : PFn Tryz.prog 279 [v.enc] (.tup [.slice ((if plainV v = true then toksV v else []).map Tkn.enc) .no, .bool (plainV v)]) := by
  have h1 := vPlain v hv
  have h2 := vToks0 v hv ho
  refine AFn.plain (by simp [AV.closed, AV.closedL, Tkn.closedL]) (by simp [AV.closedL, Val.closed]) (AFn.enter [2, 3] Tryz.func279 rfl rfl rfl rfl rfl (by decide) ?_)
  cases h0 : plainV v with
  | true =>
    rw [h0] at h1
    repeat' first
      | refine A.box_r rfl rfl ?_
      | refine .seq ?_ | refine .rg ?_ | refine .rd ?_ | refine .block ?_ | refine .scope ?_ | refine .skip ?_ | refine .label ?_ | refine .exit ?_ | refine .ret ?_
      | refine .ct ?_ | refine .cf ?_ | refine .cy ?_ | refine .cn ?_ | (refine .cond rfl ?_ ?_ <;> intro hc)
      | refine A.nil_seq ?_ | refine .nl ?_ | refine .dd ?_ | refine .ys ?_ | refine .no ?_ | (refine A.guard rfl ?_ ?_ <;> intro hc)
      | refine .lb ?_ | refine .ln ?_ | refine .ls ?_ | refine .pv ?_ | refine .ix ?_ | refine .pt ?_ | refine .pf ?_ | refine .bx ?_ | refine .al ?_ | refine .st ?_ | refine .ad ?_ | refine .sb ?_ | refine .mf ?_ | refine .cl ?_ | refine .cw ?_ | refine .ck ?_
      | refine A.call rfl h1 (WeakL.refl _) ?_ | refine A.call rfl h2 (WeakL.refl _) ?_ | fail
    exact ⟨_, rfl, Weak.refl _⟩
  | false =>
    rw [h0] at h1
    repeat' first
      | refine A.box_r rfl rfl ?_
      | refine .seq ?_ | refine .rg ?_ | refine .rd ?_ | refine .block ?_ | refine .scope ?_ | refine .skip ?_ | refine .label ?_ | refine .exit ?_ | refine .ret ?_
      | refine .ct ?_ | refine .cf ?_ | refine .cy ?_ | refine .cn ?_ | (refine .cond rfl ?_ ?_ <;> intro hc)
      | refine A.nil_seq ?_ | refine .nl ?_ | refine .dd ?_ | refine .ys ?_ | refine .no ?_ | (refine A.guard rfl ?_ ?_ <;> intro hc)
      | refine .lb ?_ | refine .ln ?_ | refine .ls ?_ | refine .pv ?_ | refine .ix ?_ | refine .pt ?_ | refine .pf ?_ | refine .bx ?_ | refine .al ?_ | refine .st ?_ | refine .ad ?_ | refine .sb ?_ | refine .mf ?_ | refine .cl ?_ | refine .cw ?_ | refine .ck ?_
      | refine A.call rfl h1 (WeakL.refl _) ?_ | fail
    exact ⟨_, rfl, Weak.tup (WeakL.cons (Weak.no (WeakL.refl _)) (WeakL.refl _))⟩
end Go.Proofs.YtegakkonlhmeaaaGreatDoor
namespace Go.Proofs.YtegakkonlhmeaaaGreatDoor
open Go Go.Av
set_option maxRecDepth 100000
set_option maxHeartbeats 8000000
set_option linter.unusedVariables false
set_option linter.unusedSimpArgs false
attribute [local irreducible] HCode AOps PFn AFn Av.Step TStep

theorem eqFuncV (F : FuncId) (a b : List Val) (ha : a.length ≤ 9223372036854775806) (hb : b.length ≤ 9223372036854775806) (hF : ∀ x ∈ a, ∀ y ∈ b, PFn Tryz.prog F [x.enc, y.enc] (.bool (sameV x y))) :
    PFn Tryz.prog 69 [.slice (a.map Val.enc) .no, .slice (b.map Val.enc) .no, .fn (.func F) [] []] (.bool (sameL a b)) := by
  refine AFn.plain rfl (by simp [AV.closedL, AV.closed, Val.closedL']) (AFn.enter [6] Tryz.func69 rfl rfl rfl rfl rfl (by decide) ?_)
  by_cases hl : a.length = b.length
  · have d0 : ((a.length : Int) != (b.length : Int)) = false := by simp [hl]
    repeat' first
      | refine .seq ?_ | refine .rg ?_ | refine .rd ?_ | refine .block ?_ | refine .scope ?_ | refine .skip ?_ | refine .label ?_ | refine .exit ?_ | refine .ret ?_
      | refine .ct ?_ | refine .cf ?_ | refine .cy ?_ | refine .cn ?_ | (refine .cond rfl ?_ ?_ <;> intro hc)
      | refine A.nil_seq ?_ | refine .nl ?_ | refine .dd ?_ | refine .ys ?_ | refine .no ?_ | (refine A.guard rfl ?_ ?_ <;> intro hc)
      | refine .lb ?_ | refine .ln ?_ | refine .ls ?_ | refine .pv ?_ | refine .ix ?_ | refine .pt ?_ | refine .pf ?_ | refine .bx ?_ | refine .al ?_ | refine .st ?_ | refine .ad ?_ | refine .sb ?_ | refine .mf ?_ | refine .cl ?_ | refine .cw ?_ | refine .ck ?_ | fail
    change HCode _ _ _ _ _ _ _
    refine HCode.loop (fun n s σ => ∃ k : Nat, n = a.length - k ∧ k ≤ a.length ∧ sameL a b = sameL (a.drop k) (b.drop k) ∧ σ = ⟨[], []⟩ ∧
      s = [(17, .int .i64 k), (16, .int .i64 a.length), (15, .slice (a.map Val.enc) .no), (1, .slice (b.map Val.enc) .no), (2, .fn (.func F) [] [])])
      (s0 := [(17, .int .i64 (0 : Nat)), (16, .int .i64 a.length), (15, .slice (a.map Val.enc) .no), (1, .slice (b.map Val.enc) .no), (2, .fn (.func F) [] [])])
      ⟨rfl, rfl, rfl, rfl, rfl, trivial⟩ ⟨0, rfl, Nat.zero_le _, rfl, rfl, rfl⟩ ?_
    rintro n s σ ⟨k, rfl, hk, hp, rfl, rfl⟩
    by_cases h1 : k < a.length
    · have d1 : decide ((k : Int) < (a.length : Int)) = true := by simp [h1]
      have x1 := map_get' (f := Val.enc) h1
      have h2 : k < b.length := by omega
      have x2 := map_get' (f := Val.enc) h2
      have hf := hF a[k] (List.getElem_mem h1) b[k] (List.getElem_mem h2)
      by_cases c : sameV a[k] b[k] = true
      · have e1 : (!sameV a[k] b[k]) = false := by rw [c]; rfl
        repeat' first
          | refine .seq ?_ | refine .rg ?_ | refine .rd ?_ | refine .block ?_ | refine .scope ?_ | refine .skip ?_ | refine .label ?_ | refine .exit ?_ | refine .ret ?_
          | refine .ct ?_ | refine .cf ?_ | refine .cy ?_ | refine .cn ?_ | (refine .cond rfl ?_ ?_ <;> intro hc)
          | refine A.nil_seq ?_ | refine .nl ?_ | refine .dd ?_ | refine .ys ?_ | refine .no ?_ | (refine A.guard rfl ?_ ?_ <;> intro hc)
          | refine .lb ?_ | refine .ln ?_ | refine .ls ?_ | refine .pv ?_ | refine .ix ?_ | refine .pt ?_ | refine .pf ?_ | refine .bx ?_ | refine .al ?_ | refine .st ?_ | refine .ad ?_ | refine .sb ?_ | refine .mf ?_ | refine .cl ?_ | refine .cw ?_ | refine .ck ?_
          | refine A.callv rfl rfl hf (WeakL.refl _) ?_ | fail
        refine ⟨a.length - (k + 1), by omega, [(17, .int .i64 ((k + 1 : Nat) : Int)), (16, .int .i64 a.length), (15, .slice (a.map Val.enc) .no), (1, .slice (b.map Val.enc) .no), (2, .fn (.func F) [] [])],
          ⟨rfl, rfl, rfl, rfl, rfl, trivial⟩, by simp [belowS, AV.low, AV.lowL, Val.lowL'], rfl, k + 1, rfl, by omega, by rw [hp, sameL_drop h1 h2, c]; rfl, rfl, rfl⟩
      · have c' : sameV a[k] b[k] = false := by simpa using c
        have e1 : (!sameV a[k] b[k]) = true := by rw [c']; rfl
        repeat' first
          | refine .seq ?_ | refine .rg ?_ | refine .rd ?_ | refine .block ?_ | refine .scope ?_ | refine .skip ?_ | refine .label ?_ | refine .exit ?_ | refine .ret ?_
          | refine .ct ?_ | refine .cf ?_ | refine .cy ?_ | refine .cn ?_ | (refine .cond rfl ?_ ?_ <;> intro hc)
          | refine A.nil_seq ?_ | refine .nl ?_ | refine .dd ?_ | refine .ys ?_ | refine .no ?_ | (refine A.guard rfl ?_ ?_ <;> intro hc)
          | refine .lb ?_ | refine .ln ?_ | refine .ls ?_ | refine .pv ?_ | refine .ix ?_ | refine .pt ?_ | refine .pf ?_ | refine .bx ?_ | refine .al ?_ | refine .st ?_ | refine .ad ?_ | refine .sb ?_ | refine .mf ?_ | refine .cl ?_ | refine .cw ?_ | refine .ck ?_
          | refine A.callv rfl rfl hf (WeakL.refl _) ?_ | fail
        refine Fin.ret1 rfl (Weak.eq (congrArg AV.bool ?_))
        rw [hp, sameL_drop h1 h2, c']; rfl
    · have d1 : decide ((k : Int) < (a.length : Int)) = false := by simp; omega
      repeat' first
        | refine .seq ?_ | refine .rg ?_ | refine .rd ?_ | refine .block ?_ | refine .scope ?_ | refine .skip ?_ | refine .label ?_ | refine .exit ?_ | refine .ret ?_
        | refine .ct ?_ | refine .cf ?_ | refine .cy ?_ | refine .cn ?_ | (refine .cond rfl ?_ ?_ <;> intro hc)
        | refine A.nil_seq ?_ | refine .nl ?_ | refine .dd ?_ | refine .ys ?_ | refine .no ?_ | (refine A.guard rfl ?_ ?_ <;> intro hc)
        | refine .lb ?_ | refine .ln ?_ | refine .ls ?_ | refine .pv ?_ | refine .ix ?_ | refine .pt ?_ | refine .pf ?_ | refine .bx ?_ | refine .al ?_ | refine .st ?_ | refine .ad ?_ | refine .sb ?_ | refine .mf ?_ | refine .cl ?_ | refine .cw ?_ | refine .ck ?_ | fail
      refine Fin.ret1 rfl (Weak.eq (congrArg AV.bool ?_))
      rw [hp, List.drop_eq_nil_of_le (by omega), List.drop_eq_nil_of_le (by omega)]
      rfl
  · have d0 : ((a.length : Int) != (b.length : Int)) = true := by simp; omega
    repeat' first
      | refine .seq ?_ | refine .rg ?_ | refine .rd ?_ | refine .block ?_ | refine .scope ?_ | refine .skip ?_ | refine .label ?_ | refine .exit ?_ | refine .ret ?_
      | refine .ct ?_ | refine .cf ?_ | refine .cy ?_ | refine .cn ?_ | (refine .cond rfl ?_ ?_ <;> intro hc)
      | refine A.nil_seq ?_ | refine .nl ?_ | refine .dd ?_ | refine .ys ?_ | refine .no ?_ | (refine A.guard rfl ?_ ?_ <;> intro hc)
      | refine .lb ?_ | refine .ln ?_ | refine .ls ?_ | refine .pv ?_ | refine .ix ?_ | refine .pt ?_ | refine .pf ?_ | refine .bx ?_ | refine .al ?_ | refine .st ?_ | refine .ad ?_ | refine .sb ?_ | refine .mf ?_ | refine .cl ?_ | refine .cw ?_ | refine .ck ?_ | fail
    exact Fin.ret1 rfl (Weak.eq (by rw [sameL_len hl]))
theorem eqFuncM (F : FuncId) (a b : List Mem) (ha : a.length ≤ 9223372036854775806) (hb : b.length ≤ 9223372036854775806) (hF : ∀ x ∈ a, ∀ y ∈ b, PFn Tryz.prog F [x.enc, y.enc] (.bool (x.name == y.name && sameV x.v y.v))) :
    PFn Tryz.prog 70 [.slice (a.map Mem.enc) .no, .slice (b.map Mem.enc) .no, .fn (.func F) [] []] (.bool (sameM a b)) := by
  refine AFn.plain rfl (by simp [AV.closedL, AV.closed, Mem.closedL]) (AFn.enter [6] Tryz.func70 rfl rfl rfl rfl rfl (by decide) ?_)
  by_cases hl : a.length = b.length
  · have d0 : ((a.length : Int) != (b.length : Int)) = false := by simp [hl]
    repeat' first
      | refine .seq ?_ | refine .rg ?_ | refine .rd ?_ | refine .block ?_ | refine .scope ?_ | refine .skip ?_ | refine .label ?_ | refine .exit ?_ | refine .ret ?_
      | refine .ct ?_ | refine .cf ?_ | refine .cy ?_ | refine .cn ?_ | (refine .cond rfl ?_ ?_ <;> intro hc)
      | refine A.nil_seq ?_ | refine .nl ?_ | refine .dd ?_ | refine .ys ?_ | refine .no ?_ | (refine A.guard rfl ?_ ?_ <;> intro hc)
      | refine .lb ?_ | refine .ln ?_ | refine .ls ?_ | refine .pv ?_ | refine .ix ?_ | refine .pt ?_ | refine .pf ?_ | refine .bx ?_ | refine .al ?_ | refine .st ?_ | refine .ad ?_ | refine .sb ?_ | refine .mf ?_ | refine .cl ?_ | refine .cw ?_ | refine .ck ?_ | fail
    change HCode _ _ _ _ _ _ _
    refine HCode.loop (fun n s σ => ∃ k : Nat, n = a.length - k ∧ k ≤ a.length ∧ sameM a b = sameM (a.drop k) (b.drop k) ∧ σ = ⟨[], []⟩ ∧
      s = [(17, .int .i64 k), (16, .int .i64 a.length), (15, .slice (a.map Mem.enc) .no), (1, .slice (b.map Mem.enc) .no), (2, .fn (.func F) [] [])])
      (s0 := [(17, .int .i64 (0 : Nat)), (16, .int .i64 a.length), (15, .slice (a.map Mem.enc) .no), (1, .slice (b.map Mem.enc) .no), (2, .fn (.func F) [] [])])
      ⟨rfl, rfl, rfl, rfl, rfl, trivial⟩ ⟨0, rfl, Nat.zero_le _, rfl, rfl, rfl⟩ ?_
    rintro n s σ ⟨k, rfl, hk, hp, rfl, rfl⟩
    by_cases h1 : k < a.length
    · have d1 : decide ((k : Int) < (a.length : Int)) = true := by simp [h1]
      have x1 := map_get' (f := Mem.enc) h1
      have h2 : k < b.length := by omega
      have x2 := map_get' (f := Mem.enc) h2
      have hf := hF a[k] (List.getElem_mem h1) b[k] (List.getElem_mem h2)
      by_cases c : (a[k].name == b[k].name && sameV a[k].v b[k].v) = true
      · have e1 : (!(a[k].name == b[k].name && sameV a[k].v b[k].v)) = false := by rw [c]; rfl
        repeat' first
          | refine .seq ?_ | refine .rg ?_ | refine .rd ?_ | refine .block ?_ | refine .scope ?_ | refine .skip ?_ | refine .label ?_ | refine .exit ?_ | refine .ret ?_
          | refine .ct ?_ | refine .cf ?_ | refine .cy ?_ | refine .cn ?_ | (refine .cond rfl ?_ ?_ <;> intro hc)
          | refine A.nil_seq ?_ | refine .nl ?_ | refine .dd ?_ | refine .ys ?_ | refine .no ?_ | (refine A.guard rfl ?_ ?_ <;> intro hc)
          | refine .lb ?_ | refine .ln ?_ | refine .ls ?_ | refine .pv ?_ | refine .ix ?_ | refine .pt ?_ | refine .pf ?_ | refine .bx ?_ | refine .al ?_ | refine .st ?_ | refine .ad ?_ | refine .sb ?_ | refine .mf ?_ | refine .cl ?_ | refine .cw ?_ | refine .ck ?_
          | refine A.callv rfl rfl hf (WeakL.refl _) ?_ | fail
        refine ⟨a.length - (k + 1), by omega, [(17, .int .i64 ((k + 1 : Nat) : Int)), (16, .int .i64 a.length), (15, .slice (a.map Mem.enc) .no), (1, .slice (b.map Mem.enc) .no), (2, .fn (.func F) [] [])],
          ⟨rfl, rfl, rfl, rfl, rfl, trivial⟩, by simp [belowS, AV.low, AV.lowL, Mem.lowL], rfl, k + 1, rfl, by omega, by rw [hp, sameM_drop h1 h2, c]; rfl, rfl, rfl⟩
      · have c' : (a[k].name == b[k].name && sameV a[k].v b[k].v) = false := by simpa using c
        have e1 : (!(a[k].name == b[k].name && sameV a[k].v b[k].v)) = true := by rw [c']; rfl
        repeat' first
          | refine .seq ?_ | refine .rg ?_ | refine .rd ?_ | refine .block ?_ | refine .scope ?_ | refine .skip ?_ | refine .label ?_ | refine .exit ?_ | refine .ret ?_
          | refine .ct ?_ | refine .cf ?_ | refine .cy ?_ | refine .cn ?_ | (refine .cond rfl ?_ ?_ <;> intro hc)
          | refine A.nil_seq ?_ | refine .nl ?_ | refine .dd ?_ | refine .ys ?_ | refine .no ?_ | (refine A.guard rfl ?_ ?_ <;> intro hc)
          | refine .lb ?_ | refine .ln ?_ | refine .ls ?_ | refine .pv ?_ | refine .ix ?_ | refine .pt ?_ | refine .pf ?_ | refine .bx ?_ | refine .al ?_ | refine .st ?_ | refine .ad ?_ | refine .sb ?_ | refine .mf ?_ | refine .cl ?_ | refine .cw ?_ | refine .ck ?_
          | refine A.callv rfl rfl hf (WeakL.refl _) ?_ | fail
        refine Fin.ret1 rfl (Weak.eq (congrArg AV.bool ?_))
        rw [hp, sameM_drop h1 h2, c']; rfl
    · have d1 : decide ((k : Int) < (a.length : Int)) = false := by simp; omega
      repeat' first
        | refine .seq ?_ | refine .rg ?_ | refine .rd ?_ | refine .block ?_ | refine .scope ?_ | refine .skip ?_ | refine .label ?_ | refine .exit ?_ | refine .ret ?_
        | refine .ct ?_ | refine .cf ?_ | refine .cy ?_ | refine .cn ?_ | (refine .cond rfl ?_ ?_ <;> intro hc)
        | refine A.nil_seq ?_ | refine .nl ?_ | refine .dd ?_ | refine .ys ?_ | refine .no ?_ | (refine A.guard rfl ?_ ?_ <;> intro hc)
        | refine .lb ?_ | refine .ln ?_ | refine .ls ?_ | refine .pv ?_ | refine .ix ?_ | refine .pt ?_ | refine .pf ?_ | refine .bx ?_ | refine .al ?_ | refine .st ?_ | refine .ad ?_ | refine .sb ?_ | refine .mf ?_ | refine .cl ?_ | refine .cw ?_ | refine .ck ?_ | fail
      refine Fin.ret1 rfl (Weak.eq (congrArg AV.bool ?_))
      rw [hp, List.drop_eq_nil_of_le (by omega), List.drop_eq_nil_of_le (by omega)]
      rfl
  · have d0 : ((a.length : Int) != (b.length : Int)) = true := by simp; omega
    repeat' first
      | refine .seq ?_ | refine .rg ?_ | refine .rd ?_ | refine .block ?_ | refine .scope ?_ | refine .skip ?_ | refine .label ?_ | refine .exit ?_ | refine .ret ?_
      | refine .ct ?_ | refine .cf ?_ | refine .cy ?_ | refine .cn ?_ | (refine .cond rfl ?_ ?_ <;> intro hc)
      | refine A.nil_seq ?_ | refine .nl ?_ | refine .dd ?_ | refine .ys ?_ | refine .no ?_ | (refine A.guard rfl ?_ ?_ <;> intro hc)
      | refine .lb ?_ | refine .ln ?_ | refine .ls ?_ | refine .pv ?_ | refine .ix ?_ | refine .pt ?_ | refine .pf ?_ | refine .bx ?_ | refine .al ?_ | refine .st ?_ | refine .ad ?_ | refine .sb ?_ | refine .mf ?_ | refine .cl ?_ | refine .cw ?_ | refine .ck ?_ | fail
    exact Fin.ret1 rfl (Weak.eq (by rw [sameM_len hl]))
theorem vSame : ∀ (N : Nat) (a b : Val), a.size ≤ N → N ≤ 9223372036854775806 → b.size ≤ 9223372036854775806 → PFn Tryz.prog 35 [a.enc, b.enc] (.bool (sameV a b))
  | 0, a, _, ha, _, _ => absurd ha (by have := a.size_pos; omega)
  | N + 1, a, b, ha, hN, hb => by
    have ih := vSame N
    have hl := eqFuncV 35 a.l b.l (by have := a.l_len; omega) (by have := b.l_len; omega) (fun x hx y hy => by
      obtain ⟨i, hi, rfl⟩ := List.getElem_of_mem hx
      obtain ⟨j, hj, rfl⟩ := List.getElem_of_mem hy
      have h1 := Val.size_l hi
      have h2 := Val.size_l hj
      exact ih _ _ (by omega) (by omega) (by omega))
    have hm := eqFuncM 71 a.m b.m (by have := a.m_len; omega) (by have := b.m_len; omega) (fun x hx y hy => by
      obtain ⟨i, hi, rfl⟩ := List.getElem_of_mem hx
      obtain ⟨j, hj, rfl⟩ := List.getElem_of_mem hy
      have h1 := Val.size_m hi
      have h2 := Val.size_m hj
      have hv := ih a.m[i].v b.m[j].v (by omega) (by omega) (by omega)
      refine AFn.plain rfl (by simp [AV.closedL, Mem.closed]) (AFn.enter [4] Tryz.func71 rfl rfl rfl rfl rfl (by decide) ?_)
      repeat' first
        | refine A.box_r rfl rfl ?_
        | refine .seq ?_ | refine .rg ?_ | refine .rd ?_ | refine .block ?_ | refine .scope ?_ | refine .skip ?_ | refine .label ?_ | refine .exit ?_ | refine .ret ?_
        | refine .ct ?_ | refine .cf ?_ | refine .cy ?_ | refine .cn ?_ | (refine .cond rfl ?_ ?_ <;> intro hc)
        | refine A.nil_seq ?_ | refine .nl ?_ | refine .dd ?_ | refine .ys ?_ | refine .no ?_ | (refine A.guard rfl ?_ ?_ <;> intro hc)
        | refine .lb ?_ | refine .ln ?_ | refine .ls ?_ | refine .pv ?_ | refine .ix ?_ | refine .pt ?_ | refine .pf ?_ | refine .bx ?_ | refine .al ?_ | refine .st ?_ | refine .ad ?_ | refine .sb ?_ | refine .mf ?_ | refine .cl ?_ | refine .cw ?_ | refine .ck ?_
        | refine A.call rfl hv (WeakL.refl _) ?_ | fail
      all_goals
        refine Fin.ret1 rfl (Weak.eq (congrArg AV.bool ?_))
        simp_all)
    rw [← a.lv_eq, ← b.lv_eq] at hl
    rw [← a.mv_eq, ← b.mv_eq] at hm
    refine AFn.plain rfl (by simp [AV.closedL, Val.closed]) (AFn.enter [4] Tryz.func35 rfl rfl rfl rfl rfl (by decide) ?_)
    rw [sameV_eq]
    repeat' first
      | refine A.box_r rfl rfl ?_
      | refine .seq ?_ | refine .rg ?_ | refine .rd ?_ | refine .block ?_ | refine .scope ?_ | refine .skip ?_ | refine .label ?_ | refine .exit ?_ | refine .ret ?_
      | refine .ct ?_ | refine .cf ?_ | refine .cy ?_ | refine .cn ?_ | (refine .cond rfl ?_ ?_ <;> intro hc)
      | refine A.nil_seq ?_ | refine .nl ?_ | refine .dd ?_ | refine .ys ?_ | refine .no ?_ | (refine A.guard rfl ?_ ?_ <;> intro hc)
      | refine .lb ?_ | refine .ln ?_ | refine .ls ?_ | refine .pv ?_ | refine .ix ?_ | refine .pt ?_ | refine .pf ?_ | refine .bx ?_ | refine .al ?_ | refine .st ?_ | refine .ad ?_ | refine .sb ?_ | refine .mf ?_ | refine .cl ?_ | refine .cw ?_ | refine .ck ?_
      | refine A.call rfl hl (WeakL.refl _) ?_ | refine A.call rfl hm (WeakL.refl _) ?_ | fail
    all_goals
      refine Fin.ret1 rfl (Weak.eq (congrArg AV.bool ?_))
      simp_all
end Go.Proofs.YtegakkonlhmeaaaGreatDoor
set_option linter.unusedVariables false
set_option linter.unusedSimpArgs false
namespace Go.Proofs.YtegakkonlhmeaaaGreatDoor
open Go Go.Av
set_option maxRecDepth 100000
set_option maxHeartbeats 16000000
attribute [local irreducible] HCode AOps PFn AFn Av.Step TStep

structure WS where
  l : List Tkn
  ok : Bool
def WS.cs (W : WS) : List AV := [.slice (W.l.map Tkn.enc) (.own 0 2), .bool W.ok, .int .i64 0]
theorem WS.low (W : WS) : AV.lowL 1 1 W.cs = true := by simp [WS.cs, AV.lowL, AV.low]
theorem low_snoc (l : List Tkn) (s : Str) : AV.lowL 1 1 (List.map Tkn.enc l ++ [AV.agg [AV.int .i64 1, AV.str s]]) = true := by
  have := lowL_Tkn 1 1 (l ++ [tP s])
  rwa [List.map_append] at this
abbrev WC (f : FuncId) (x0 : AV) (vals : List AV) (W W' : WS) : Prop := AFn Tryz.prog f (x0 :: vals) ⟨[.cells W.cs], [.len W.l.length]⟩ (fun e σ1 => e = .ret (.tup []) ∧ σ1 = ⟨[.cells W'.cs], [.len W'.l.length]⟩)
section
variable {all : Array Oper} {draw : Bool} {K : AX → Slots → St → Prop} {rest : List Oper} {acc : List Tag} {s : Slots} {σ : St} {ty : TypeId} {pos : String} {af : Array Edge}
theorem A.callWC {d : Option Tmp} {f : FuncId} {args : Array Operand} {tys : Array TypeId} {x0 : AV} {vals vals0 : List AV} {W W' : WS} {B : List Ob} {T : List Tok}
    (hp : WC f x0 vals0 W W') (ha : evsK s args.toList some = some (x0 :: vals)) (hσ : σ = ⟨.cells W.cs :: B, .len W.l.length :: T⟩)
    (hx0 : x0.low 1 1 = true) (hc : AV.closedL vals0 = true) (hw : WeakL vals vals0)
    (kk : AOps Tryz.prog all draw K rest (.all :: acc) (putS d (.tup []) s) ⟨.cells W'.cs :: B, .len W'.l.length :: T⟩) : AOps Tryz.prog all draw K (⟨d, .call ⟨.value (.func f), args, tys⟩, ty, pos, af, none⟩ :: rest) acc s σ :=
  A.callW hp ha hσ hx0 hc W.low W'.low rfl hw kk
end
theorem WC.of {f : FuncId} {x0 : AV} {vals : List AV} {W W' : WS} (h : AFn Tryz.prog f (x0 :: vals) ⟨[.cells W.cs], [.len W.l.length]⟩ (fun e σ1 => e = .ret (.tup []) ∧ σ1.B.take 1 = [.cells W'.cs] ∧ σ1.T.take 1 = [.len W'.l.length])) : WC f x0 vals W W' :=
  AFn.dropped (AFn.mono h fun e σ1 hh => ⟨.tup [], 1, 1, hh.1, Nat.le_refl _, Nat.le_refl _, rfl, by rw [hh.2.1]; simp [belowB, Ob.low, WS.low], by rw [hh.2.2]; rfl, rfl, by rw [hh.2.1, hh.2.2]⟩)
theorem ws_app (l ys : List Tkn) (ok : Bool) : (⟨[.cells [.slice (l.map Tkn.enc ++ ys.map Tkn.enc) (.own 0 2), .bool ok, .int .i64 0]], [.len (l.length + (ys.map Tkn.enc).length)]⟩ : St) = ⟨[.cells (WS.mk (l ++ ys) ok).cs], [.len (WS.mk (l ++ ys) ok).l.length]⟩ := by
  simp [WS.cs]

def wNeed (b : Bool) (W : WS) : WS := ⟨W.l, W.ok && b⟩
def wMark (s : Str) (W : WS) : WS := ⟨W.l ++ [tP s], W.ok⟩
def wName (s : Str) (W : WS) : WS := ⟨W.l ++ [tW s], W.ok && nameB s⟩
def wVal (v : Val) (fixed : Bool) (W : WS) : WS := ⟨W.l ++ (if plainV v = true then toksV v else []), W.ok && (plainV v && !(fixed && decide (varsV v [] ≠ [])))⟩
def wDflt (has : Bool) (v : Val) (W : WS) : WS := if has = true then wVal v true (wMark [61] W) else wNeed (sameV v val0) W

theorem cNeed (W : WS) (b : Bool) : WC 229 (.ptr 0 0) [.bool b] W (wNeed b W) := by
  obtain ⟨l, ok⟩ := W
  refine AFn.enter [] Tryz.func229 rfl rfl rfl rfl rfl (by decide) ?_
  unfold wNeed WS.cs
  cases ok with
  | true =>
    repeat' first
      | refine .seq ?_ | refine .rg ?_ | refine .rd ?_ | refine .block ?_ | refine .scope ?_ | refine .skip ?_ | refine .label ?_ | refine .exit ?_ | refine .ret ?_
      | refine .ct ?_ | refine .cf ?_ | refine .cy ?_ | refine .cn ?_ | (refine .cond rfl ?_ ?_ <;> intro hc)
      | refine A.nil_seq ?_ | refine .nl ?_ | refine .dd ?_ | refine .ys ?_ | refine .no ?_ | (refine A.guard rfl ?_ ?_ <;> intro hc)
      | refine .lb ?_ | refine .ln ?_ | refine .ls ?_ | refine .pv ?_ | refine .ix ?_ | refine .pt ?_ | refine .pf ?_ | refine .bx ?_ | refine .al ?_ | refine .st ?_ | refine .ad ?_ | refine .sb ?_ | refine .mf ?_ | refine .cl ?_ | refine .cw ?_ | refine .ck ?_
      | refine A.nilPtr rfl ?_ | fail
    exact ⟨rfl, rfl⟩
  | false =>
    repeat' first
      | refine .seq ?_ | refine .rg ?_ | refine .rd ?_ | refine .block ?_ | refine .scope ?_ | refine .skip ?_ | refine .label ?_ | refine .exit ?_ | refine .ret ?_
      | refine .ct ?_ | refine .cf ?_ | refine .cy ?_ | refine .cn ?_ | (refine .cond rfl ?_ ?_ <;> intro hc)
      | refine A.nil_seq ?_ | refine .nl ?_ | refine .dd ?_ | refine .ys ?_ | refine .no ?_ | (refine A.guard rfl ?_ ?_ <;> intro hc)
      | refine .lb ?_ | refine .ln ?_ | refine .ls ?_ | refine .pv ?_ | refine .ix ?_ | refine .pt ?_ | refine .pf ?_ | refine .bx ?_ | refine .al ?_ | refine .st ?_ | refine .ad ?_ | refine .sb ?_ | refine .mf ?_ | refine .cl ?_ | refine .cw ?_ | refine .ck ?_
      | refine A.nilPtr rfl ?_ | fail
    exact ⟨rfl, rfl⟩
theorem cName (W : WS) (s : Str) (hs : s.length ≤ 1048640) (hW : W.l.length ≤ 1099511627776) : WC 211 (.ptr 0 0) [.str s] W (wName s W) := by
  have h1 := lName s (by omega)
  have h2 := cNeed W (nameB s)
  obtain ⟨l, ok⟩ := W
  simp only at hW
  refine AFn.enter [] Tryz.func211 rfl rfl rfl rfl rfl (by decide) ?_
  repeat' first
    | refine .seq ?_ | refine .rg ?_ | refine .rd ?_ | refine .block ?_ | refine .scope ?_ | refine .skip ?_ | refine .label ?_ | refine .exit ?_ | refine .ret ?_
    | refine .ct ?_ | refine .cf ?_ | refine .cy ?_ | refine .cn ?_ | (refine .cond rfl ?_ ?_ <;> intro hc)
    | refine A.nil_seq ?_ | refine .nl ?_ | refine .dd ?_ | refine .ys ?_ | refine .no ?_ | (refine A.guard rfl ?_ ?_ <;> intro hc)
    | refine .lb ?_ | refine .ln ?_ | refine .ls ?_ | refine .pv ?_ | refine .ix ?_ | refine .pt ?_ | refine .pf ?_ | refine .bx ?_ | refine .al ?_ | refine .st ?_ | refine .ad ?_ | refine .sb ?_ | refine .mf ?_ | refine .cl ?_ | refine .cw ?_ | refine .ck ?_
    | refine A.nilPtr rfl ?_ | refine A.callWC h2 rfl rfl rfl rfl (WeakL.refl _) ?_ | refine A.append (n := l.length) rfl rfl rfl rfl rfl rfl rfl rfl (List.length_map ..) rfl (by dsimp only [List.length_cons, List.length_nil]; omega) (by dsimp only [List.length_cons, List.length_nil]; omega) rfl ?_ | fail
  exact ⟨rfl, ws_app l [tW s] _⟩
theorem cMark (W : WS) (s : Str) (hW : W.l.length ≤ 1099511627776) : WC 212 (.ptr 0 0) [.slice [.str s] .no] W (wMark s W) := by
  obtain ⟨l, ok⟩ := W
  simp only at hW
  refine AFn.enter [] Tryz.func212 rfl rfl rfl rfl rfl (by decide) ?_
  repeat' first
    | refine .seq ?_ | refine .rg ?_ | refine .rd ?_ | refine .block ?_ | refine .scope ?_ | refine .skip ?_ | refine .label ?_ | refine .exit ?_ | refine .ret ?_
    | refine .ct ?_ | refine .cf ?_ | refine .cy ?_ | refine .cn ?_ | (refine .cond rfl ?_ ?_ <;> intro hc)
    | refine A.nil_seq ?_ | refine .nl ?_ | refine .dd ?_ | refine .ys ?_ | refine .no ?_ | (refine A.guard rfl ?_ ?_ <;> intro hc)
    | refine .lb ?_ | refine .ln ?_ | refine .ls ?_ | refine .pv ?_ | refine .ix ?_ | refine .pt ?_ | refine .pf ?_ | refine .bx ?_ | refine .al ?_ | refine .st ?_ | refine .ad ?_ | refine .sb ?_ | refine .mf ?_ | refine .cl ?_ | refine .cw ?_ | refine .ck ?_ | fail
  refine HCode.forK 1 (fun k => [(8, .int .i64 k), (7, .int .i64 1), (6, .slice [.str s] .no), (0, .ptr 0 0)])
    (fun k => ⟨[.cells (if k = 0 then WS.mk l ok else wMark s ⟨l, ok⟩).cs], [.len (if k = 0 then WS.mk l ok else wMark s ⟨l, ok⟩).l.length]⟩) (fun _ => True) ⟨rfl, rfl, rfl, rfl, trivial⟩ rfl trivial fun k hk _ => ?_
  match k, hk with
  | 0, _ =>
    have d1 : decide (((0 : Nat) : Int) < 1) = true := rfl
    have x1 : ([AV.str s] : List AV)[0]? = some (.str s) := rfl
    repeat' first
      | refine .seq ?_ | refine .rg ?_ | refine .rd ?_ | refine .block ?_ | refine .scope ?_ | refine .skip ?_ | refine .label ?_ | refine .exit ?_ | refine .ret ?_
      | refine .ct ?_ | refine .cf ?_ | refine .cy ?_ | refine .cn ?_ | (refine .cond rfl ?_ ?_ <;> intro hc)
      | refine A.nil_seq ?_ | refine .nl ?_ | refine .dd ?_ | refine .ys ?_ | refine .no ?_ | (refine A.guard rfl ?_ ?_ <;> intro hc)
      | refine .lb ?_ | refine .ln ?_ | refine .ls ?_ | refine .pv ?_ | refine .ix ?_ | refine .pt ?_ | refine .pf ?_ | refine .bx ?_ | refine .al ?_ | refine .st ?_ | refine .ad ?_ | refine .sb ?_ | refine .mf ?_ | refine .cl ?_ | refine .cw ?_ | refine .ck ?_
      | refine A.nilPtr rfl ?_ | refine A.append (n := l.length) rfl rfl rfl rfl rfl rfl rfl rfl (List.length_map ..) rfl (by dsimp only [List.length_cons, List.length_nil]; omega) (by dsimp only [List.length_cons, List.length_nil]; omega) rfl ?_ | fail
    exact ⟨Nat.one_pos, ⟨rfl, rfl, rfl, rfl, trivial⟩, rfl, (by simp [belowB, belowT, Ob.low, AV.lowL, AV.low, Tok.low]; exact low_snoc l s), ws_app l [tP s] _, trivial⟩
  | 1, _ =>
    have d1 : decide (((1 : Nat) : Int) < 1) = false := rfl
    repeat' first
      | refine .seq ?_ | refine .rg ?_ | refine .rd ?_ | refine .block ?_ | refine .scope ?_ | refine .skip ?_ | refine .label ?_ | refine .exit ?_ | refine .ret ?_
      | refine .ct ?_ | refine .cf ?_ | refine .cy ?_ | refine .cn ?_ | (refine .cond rfl ?_ ?_ <;> intro hc)
      | refine A.nil_seq ?_ | refine .nl ?_ | refine .dd ?_ | refine .ys ?_ | refine .no ?_ | (refine A.guard rfl ?_ ?_ <;> intro hc)
      | refine .lb ?_ | refine .ln ?_ | refine .ls ?_ | refine .pv ?_ | refine .ix ?_ | refine .pt ?_ | refine .pf ?_ | refine .bx ?_ | refine .al ?_ | refine .st ?_ | refine .ad ?_ | refine .sb ?_ | refine .mf ?_ | refine .cl ?_ | refine .cw ?_ | refine .ck ?_ | fail
    exact ⟨rfl, rfl⟩
theorem cValue (W : WS) (v : Val) (fixed : Bool) (hv : v.size ≤ 1048640) (ho : v.ok) (hW : W.l.length ≤ 1099511627776) : WC 265 (.ptr 0 0) [v.enc, .bool fixed] W (wVal v fixed W) := by
  have h1 := vTokens v (by omega) ho
  have h2 := cNeed W (plainV v && !(fixed && decide (varsV v [] ≠ [])))
  have h3 := vDepth v.size (by omega) v (Nat.le_refl _)
  have h4 := vVars v (by omega)
  have hl := toksV_len v
  have hdl := depV_le v
  obtain ⟨l, ok⟩ := W
  simp only at hW
  refine AFn.enter [] Tryz.func265 rfl rfl rfl rfl rfl (by decide) ?_
  unfold wVal
  generalize hT : (if plainV v = true then toksV v else []) = ys at *
  have hys : ys.length ≤ 137438953472 := by
    rw [← hT]
    split
    · omega
    · exact Nat.zero_le _
  have hym : (ys.map Tkn.enc).length = ys.length := List.length_map ..
  cases hp : plainV v with
  | false =>
    rw [hp] at h1 h2
    repeat' first
      | refine .br ?_
      | refine .seq ?_ | refine .rg ?_ | refine .rd ?_ | refine .block ?_ | refine .scope ?_ | refine .skip ?_ | refine .label ?_ | refine .exit ?_ | refine .ret ?_
      | refine .ct ?_ | refine .cf ?_ | refine .cy ?_ | refine .cn ?_ | (refine .cond rfl ?_ ?_ <;> intro hc)
      | refine A.nil_seq ?_ | refine .nl ?_ | refine .dd ?_ | refine .ys ?_ | refine .no ?_ | (refine A.guard rfl ?_ ?_ <;> intro hc)
      | refine .lb ?_ | refine .ln ?_ | refine .ls ?_ | refine .pv ?_ | refine .ix ?_ | refine .pt ?_ | refine .pf ?_ | refine .bx ?_ | refine .al ?_ | refine .st ?_ | refine .ad ?_ | refine .sb ?_ | refine .mf ?_ | refine .cl ?_ | refine .cw ?_ | refine .ck ?_
      | refine A.nilPtr rfl ?_ | refine A.callWC h2 rfl rfl rfl rfl (WeakL.refl _) ?_ | refine A.append (n := l.length) rfl rfl rfl rfl rfl rfl rfl rfl (List.length_map ..) (Tkn.fitsAll _) (by rw [hym]; dsimp only; omega) (by rw [hym]; omega) rfl ?_ | fail
    exact ⟨rfl, ws_app l ys _⟩
  | true =>
    rw [hp] at h1 h2
    have hd : decide ((0 : Int) + (depV v : Int) ≤ 16) = true := by
      unfold plainV at hp
      simp only [Bool.and_eq_true, decide_eq_true_eq] at hp
      exact decide_eq_true (by omega)
    cases fixed with
    | false =>
      repeat' first
        | refine .br ?_
        | refine .seq ?_ | refine .rg ?_ | refine .rd ?_ | refine .block ?_ | refine .scope ?_ | refine .skip ?_ | refine .label ?_ | refine .exit ?_ | refine .ret ?_
        | refine .ct ?_ | refine .cf ?_ | refine .cy ?_ | refine .cn ?_ | (refine .cond rfl ?_ ?_ <;> intro hc)
        | refine A.nil_seq ?_ | refine .nl ?_ | refine .dd ?_ | refine .ys ?_ | refine .no ?_ | (refine A.guard rfl ?_ ?_ <;> intro hc)
        | refine .lb ?_ | refine .ln ?_ | refine .ls ?_ | refine .pv ?_ | refine .ix ?_ | refine .pt ?_ | refine .pf ?_ | refine .bx ?_ | refine .al ?_ | refine .st ?_ | refine .ad ?_ | refine .sb ?_ | refine .mf ?_ | refine .cl ?_ | refine .cw ?_ | refine .ck ?_
        | refine A.nilPtr rfl ?_ | refine A.callWC h2 rfl rfl rfl rfl (WeakL.refl _) ?_ | refine A.append (n := l.length) rfl rfl rfl rfl rfl rfl rfl rfl (List.length_map ..) (Tkn.fitsAll _) (by rw [hym]; dsimp only; omega) (by rw [hym]; omega) rfl ?_ | fail
      exact ⟨rfl, ws_app l ys _⟩
    | true =>
      have d1 : (true && !(true && decide (varsV v [] ≠ []))) = !decide (0 < ((varsV v []).length : Int)) := by
        cases varsV v [] <;> simp <;> omega
      rw [d1] at h2 ⊢
      repeat' first
        | refine .br ?_
        | refine .seq ?_ | refine .rg ?_ | refine .rd ?_ | refine .block ?_ | refine .scope ?_ | refine .skip ?_ | refine .label ?_ | refine .exit ?_ | refine .ret ?_
        | refine .ct ?_ | refine .cf ?_ | refine .cy ?_ | refine .cn ?_ | (refine .cond rfl ?_ ?_ <;> intro hc)
        | refine A.nil_seq ?_ | refine .nl ?_ | refine .dd ?_ | refine .ys ?_ | refine .no ?_ | (refine A.guard rfl ?_ ?_ <;> intro hc)
        | refine .lb ?_ | refine .ln ?_ | refine .ls ?_ | refine .pv ?_ | refine .ix ?_ | refine .pt ?_ | refine .pf ?_ | refine .bx ?_ | refine .al ?_ | refine .st ?_ | refine .ad ?_ | refine .sb ?_ | refine .mf ?_ | refine .cl ?_ | refine .cw ?_ | refine .ck ?_
        | refine A.nilPtr rfl ?_ | refine A.callWC h2 rfl rfl rfl rfl (WeakL.refl _) ?_ | refine A.append (n := l.length) rfl rfl rfl rfl rfl rfl rfl rfl (List.length_map ..) (Tkn.fitsAll _) (by rw [hym]; dsimp only; omega) (by rw [hym]; omega) rfl ?_ | fail
      exact ⟨rfl, ws_app l ys _⟩
theorem cDflt (W : WS) (has : Bool) (v : Val) (hv : v.size ≤ 1048640) (ho : v.ok) (hW : W.l.length ≤ 1099511627775) : WC 249 (.ptr 0 0) [.bool has, v.enc] W (wDflt has v W) := by
  have h1 := vSame v.size v val0 (Nat.le_refl _) (by omega) (by decide)
  have h2 := cNeed W (sameV v val0)
  have h3 := cMark W [61] (by omega)
  have h4 := cValue (wMark [61] W) v true hv ho (by unfold wMark; simp only [List.length_append, List.length_cons, List.length_nil]; omega)
  refine AFn.enter [] Tryz.func249 rfl rfl rfl rfl rfl (by decide) ?_
  unfold wDflt
  cases has with
  | true =>
    rw [if_pos rfl]
    repeat' first
      | refine .br ?_
      | refine .seq ?_ | refine .rg ?_ | refine .rd ?_ | refine .block ?_ | refine .scope ?_ | refine .skip ?_ | refine .label ?_ | refine .exit ?_ | refine .ret ?_
      | refine .ct ?_ | refine .cf ?_ | refine .cy ?_ | refine .cn ?_ | (refine .cond rfl ?_ ?_ <;> intro hc)
      | refine A.nil_seq ?_ | refine .nl ?_ | refine .dd ?_ | refine .ys ?_ | refine .no ?_ | (refine A.guard rfl ?_ ?_ <;> intro hc)
      | refine .lb ?_ | refine .ln ?_ | refine .ls ?_ | refine .pv ?_ | refine .ix ?_ | refine .pt ?_ | refine .pf ?_ | refine .bx ?_ | refine .al ?_ | refine .st ?_ | refine .ad ?_ | refine .sb ?_ | refine .mf ?_ | refine .cl ?_ | refine .cw ?_ | refine .ck ?_
      | refine A.callWC h3 rfl rfl rfl rfl (WeakL.cons (Weak.no (WeakL.refl _)) (WeakL.refl _)) ?_ | refine A.callWC h4 rfl rfl rfl (by simp [AV.closedL, AV.closed, Val.closed]) (WeakL.refl _) ?_ | fail
    exact ⟨rfl, rfl⟩
  | false =>
    rw [if_neg (by simp)]
    repeat' first
      | refine .br ?_
      | refine .seq ?_ | refine .rg ?_ | refine .rd ?_ | refine .block ?_ | refine .scope ?_ | refine .skip ?_ | refine .label ?_ | refine .exit ?_ | refine .ret ?_
      | refine .ct ?_ | refine .cf ?_ | refine .cy ?_ | refine .cn ?_ | (refine .cond rfl ?_ ?_ <;> intro hc)
      | refine A.nil_seq ?_ | refine .nl ?_ | refine .dd ?_ | refine .ys ?_ | refine .no ?_ | (refine A.guard rfl ?_ ?_ <;> intro hc)
      | refine .lb ?_ | refine .ln ?_ | refine .ls ?_ | refine .pv ?_ | refine .ix ?_ | refine .pt ?_ | refine .pf ?_ | refine .bx ?_ | refine .al ?_ | refine .st ?_ | refine .ad ?_ | refine .sb ?_ | refine .mf ?_ | refine .cl ?_ | refine .cw ?_ | refine .ck ?_
      | refine A.callWC h2 rfl rfl rfl rfl (WeakL.refl _) ?_ | refine A.call rfl h1 (WeakL.cons (Weak.refl _) (WeakL.cons weak_flatV (WeakL.refl _))) ?_ | fail
    exact ⟨rfl, rfl⟩
end Go.Proofs.YtegakkonlhmeaaaGreatDoor
