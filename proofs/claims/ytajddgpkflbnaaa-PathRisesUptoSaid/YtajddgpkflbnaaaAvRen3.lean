/-
  Calls that hand back new tokens; calls that write one of the caller's slices: in the shape in which they are used.
-/
import Derived.Test.YtajddgpkflbnaaaAvDefer
set_option linter.unusedVariables false
namespace Go.Av
open Go
set_option linter.unusedSectionVars false
variable [Globals]

mutual
theorem AV.ren_same {fb ft : Nat → Nat} {n m : Nat} (hb : ∀ i, i < n → fb i = i) (ht : ∀ k, k < m → ft k = k) : ∀ x : AV, x.low n m = true → x.ren fb ft = x
  | .undef, _ => by rw [AV.ren]
  | .bool _, _ => by rw [AV.ren]
  | .int _ _, _ => by rw [AV.ren]
  | .str _, _ => by rw [AV.ren]
  | .agg cs, h => by rw [AV.ren, AV.renL_same hb ht cs (by simpa [AV.low] using h)]
  | .tup cs, h => by rw [AV.ren, AV.renL_same hb ht cs (by simpa [AV.low] using h)]
  | .slice xs t, h => by
    simp only [AV.low, Bool.and_eq_true] at h
    rw [AV.ren, AV.renL_same hb ht xs h.2]
    cases t with
    | own k z => rw [Tk.ren, ht k (Nat.le_of_ble_eq_true h.1)]
    | no => rfl
    | full => rfl
    | nil => rfl
    | nn => rfl
  | .ptr i _, h => by rw [AV.ren, hb i (by simpa [AV.low] using h)]
  | .rptr x, h => by rw [AV.ren, AV.ren_same hb ht x (by simpa [AV.low] using h)]
  | .nilp, _ => by rw [AV.ren]
  | .fn _ a b, h => by
    simp only [AV.low, Bool.and_eq_true] at h
    rw [AV.ren, AV.renL_same hb ht a h.1, AV.renL_same hb ht b h.2]
  | .nilfn, _ => by rw [AV.ren]
  | .iface _ x, h => by rw [AV.ren, AV.ren_same hb ht x (by simpa [AV.low] using h)]
  | .nili, _ => by rw [AV.ren]
  | .map i, h => by rw [AV.ren, hb i (by simpa [AV.low] using h)]
  | .nilmap, _ => by rw [AV.ren]
  | .iter i, h => by rw [AV.ren, hb i (by simpa [AV.low] using h)]
  | .view xs _, h => by rw [AV.ren, AV.renL_same hb ht xs (by simpa [AV.low] using h)]
  | .vec k _ _ _ _, h => by rw [AV.ren, ht k (by simpa [AV.low] using h)]
  | .vptr k _ _ _ _, h => by rw [AV.ren, ht k (by simpa [AV.low] using h)]
theorem AV.renL_same {fb ft : Nat → Nat} {n m : Nat} (hb : ∀ i, i < n → fb i = i) (ht : ∀ k, k < m → ft k = k) : ∀ xs : List AV, AV.lowL n m xs = true → AV.renL fb ft xs = xs
  | [], _ => by rw [AV.renL]
  | x :: xs, h => by
    simp only [AV.lowL, Bool.and_eq_true] at h
    rw [AV.renL, AV.ren_same hb ht x h.1, AV.renL_same hb ht xs h.2]
end
theorem Tok.ren_same {fb ft : Nat → Nat} {n m : Nat} (hb : ∀ i, i < n → fb i = i) (ht : ∀ k, k < m → ft k = k) {t : Tok} (h : t.low n m = true) : t.ren fb ft = t := by
  cases t with
  | len n => rfl
  | vec xs => rw [Tok.ren, AV.renL_same hb ht xs h]
theorem renT_same {fb ft : Nat → Nat} {n m : Nat} (hb : ∀ i, i < n → fb i = i) (ht : ∀ k, k < m → ft k = k) : ∀ T : List Tok, belowT n m T = true → T.map (Tok.ren fb ft) = T
  | [], _ => rfl
  | t :: T, h => by
    simp only [belowT, Bool.and_eq_true] at h
    rw [List.map_cons, Tok.ren_same hb ht h.1, renT_same hb ht T h.2]
theorem AV.lowL_mono0 {n m : Nat} {xs : List AV} (h : AV.closedL xs = true) : AV.lowL n m xs = true := AV.lowL_of_closed n m xs h

section rules
variable {P : Program} {all : Array Oper} {draw : Bool} {K : AX → Slots → St → Prop} {rest : List Oper} {acc : List Tag} {s : Slots} {σ : St}
variable {d : Option Tmp} {ty : TypeId} {pos : String} {af : Array Edge}

theorem merge_nil {α : Type} (l c : List α) : merge l [] c = l ++ c := by
  unfold merge; rw [List.length_nil, List.drop_zero]; cases c <;> rfl

/-- A call of plain data that hands back new tokens, where there are none yet. -/
theorem A.callN {f : FuncId} {args : Array Operand} {tys : Array TypeId} {vals vals0 : List AV} {T1 : List Tok} {v : AV} {B : List Ob} (hσ : σ = ⟨B, []⟩) (ha : evsK s args.toList some = some vals)
    (hp : AFn P f vals0 ⟨[], []⟩ (fun e σ1 => e = .ret v ∧ σ1 = ⟨[], T1⟩)) (hc : AV.closedL vals0 = true) (hw : WeakL vals vals0) (hv : v.low 0 T1.length = true) (hT : belowT 0 T1.length T1 = true)
    (k : AOps P all draw K rest (.all :: acc) (putS d v s) ⟨B, T1⟩) : AOps P all draw K (⟨d, .call ⟨.value (.func f), args, tys⟩, ty, pos, af, none⟩ :: rest) acc s σ := by
  subst hσ
  have hft : ∀ k, k < T1.length → emb 0 [] k = k := fun k _ => by simp [emb]
  have hfb : ∀ i, i < 0 → emb B.length [] i = i := fun i h => by omega
  refine A.callR (nB := B.length) (nT := 0) (B0 := []) (T0 := []) (B1 := []) (T1 := T1) (v0 := v) [] [] ha hp rfl rfl ⟨List.nodup_nil, by simp⟩ ⟨List.nodup_nil, by simp⟩ rfl rfl (fun k i ob h => by simp at h) (fun k i t h => by simp at h) rfl rfl
    (AV.lowL_of_closed _ _ _ hc) (by rw [AV.renL_closed _ _ _ hc]; exact hw) (AV.ren_same hfb hft v hv) (B' := B) (T' := T1) ?_ ?_ k
  · rw [merge_nil]; simp
  · rw [merge_nil, renT_same hfb hft T1 hT]; rfl

/-- A call that writes one of the caller's slices. -/
theorem A.callV {f : FuncId} {args : Array Operand} {tys : Array TypeId} {vals vals0 : List AV} {xs ys : List AV} {v0 v : AV} {nT : Nat} {T' : List Tok} (j : Nat) (ha : evsK s args.toList some = some vals)
    (hp : AFn P f vals0 ⟨[], [.vec xs]⟩ (fun e σ1 => e = .ret v0 ∧ σ1 = ⟨[], [.vec ys]⟩)) (hnT : σ.T.length = nT) (hj : σ.T[j]? = some (.vec xs)) (hx : AV.closedL xs = true) (hy : AV.closedL ys = true) (hla : AV.lowL 0 1 vals0 = true)
    (hw : WeakL vals (AV.renL (emb σ.B.length []) (emb nT [j]) vals0)) (hv : v0.ren (emb σ.B.length []) (emb nT [j]) = v) (hT' : setTK j (.vec ys) σ.T some = some T')
    (k : AOps P all draw K rest (.all :: acc) (putS d v s) ⟨σ.B, T'⟩) : AOps P all draw K (⟨d, .call ⟨.value (.func f), args, tys⟩, ty, pos, af, none⟩ :: rest) acc s σ := by
  have hjl : j < nT := by rw [← hnT]; exact (List.getElem?_eq_some_iff.1 hj).1
  refine A.callR (nB := σ.B.length) (nT := nT) (B0 := []) (T0 := [.vec xs]) (B1 := []) (T1 := [.vec ys]) (v0 := v0) [] [j] ha hp rfl hnT ⟨List.nodup_nil, by simp⟩ ⟨by simp, by simpa using hjl⟩ rfl rfl (fun k i ob h => by simp at h) (fun k i t h ht => ?_) rfl
    (by simp only [List.length_nil, List.length_cons, belowT, Tok.low, Bool.and_true]; exact AV.lowL_of_closed _ _ _ hx) hla hw hv (B' := σ.B) (T' := T') ?_ ?_ k
  · cases k with
    | zero =>
      simp at h ht
      subst h; subst ht
      rw [Tok.ren, AV.renL_closed _ _ _ hx]
      exact hj
    | succ k => simp at h
  · rw [merge_nil]; simp
  · obtain ⟨_, hTe⟩ := setTK_spec _ _ _ _ _ hT'
    rw [← Option.some.inj hTe]
    simp [merge, upd, Tok.ren, AV.renL_closed _ _ _ hy]
end rules
theorem AFn.mono {P : Program} {f : FuncId} {args : List AV} {σ : St} {post post' : AEnd → St → Prop} (h : AFn P f args σ post) (hp : ∀ e σ', post e σ' → post' e σ') : AFn P f args σ post' :=
  ⟨h.1, fun g w vals hi hl => (h.2 g w vals hi hl).mono fun e w' ⟨g', σ', x, h1, h2, h3, h4⟩ => ⟨g', σ', x, h1, h2, h3, hp _ _ h4⟩⟩
theorem WeakL.app {xs ys xs' ys' : List AV} (h : WeakL xs xs') (k : WeakL ys ys') : WeakL (xs ++ ys) (xs' ++ ys') := fun g w vs hv => by
  have key : ∀ (xs : List AV) (vs : List Value), RepL g w (xs ++ ys) vs → ∃ v1 v2, vs = v1 ++ v2 ∧ RepL g w xs v1 ∧ RepL g w ys v2 := by
    intro xs
    induction xs with
    | nil => intro vs h; exact ⟨[], vs, rfl, rfl, h⟩
    | cons x xs ih =>
      intro vs h
      obtain ⟨v, rest, rfl, h1, h2⟩ := h
      obtain ⟨v1, v2, rfl, h3, h4⟩ := ih rest h2
      exact ⟨v :: v1, v2, rfl, ⟨v, v1, rfl, h1, h3⟩, h4⟩
  obtain ⟨v1, v2, rfl, h1, h2⟩ := key xs vs hv
  exact (h g w v1 h1).append (k g w v2 h2)
end Go.Av
