/-
  Code and functions: the rules of the abstract walk.
-/
import Derived.LoopN
import Derived.Scope
import Derived.Test.YtmfmdehfbpkgdaaGreatDoorAvDraw
set_option linter.unusedVariables false
namespace Go.Av
open Go
set_option linter.unusedSectionVars false
variable [Globals]
def AxRep (g : Gh) (w : World) : AX → Exit → Prop
  | .normal, e => e = .normal
  | .exit id, e => e = .exit id
  | .goto l, e => e = .goto l
  | .ret, e => e = .ret
  | .pan x, e => ∃ u, e = .panic [{ v := u, recovered := false }] ∧ Rep g w x u
mutual
def AV.closed : AV → Bool
  | .ptr _ _ | .map _ | .iter _ | .vec _ _ _ _ _ | .vptr _ _ _ _ _ => false
  | .view xs _ => AV.closedL xs
  | .agg cs => AV.closedL cs
  | .tup cs => AV.closedL cs
  | .slice xs t => (match t with | .own _ _ => false | _ => true) && AV.closedL xs
  | .rptr x => x.closed
  | .fn _ fs cs => AV.closedL fs && AV.closedL cs
  | .iface _ x => x.closed
  | _ => true
def AV.closedL : List AV → Bool
  | [] => true
  | x :: xs => x.closed && AV.closedL xs
end
mutual
def AV.low (n m : Nat) : AV → Bool
  | .ptr i _ => Nat.blt i n
  | .map i => Nat.blt i n
  | .iter i => Nat.blt i n
  | .view xs _ => AV.lowL n m xs
  | .vec k _ _ _ _ => Nat.blt k m
  | .vptr k _ _ _ _ => Nat.blt k m
  | .agg cs => AV.lowL n m cs
  | .tup cs => AV.lowL n m cs
  | .slice xs t => (match t with | .own k _ => Nat.blt k m | _ => true) && AV.lowL n m xs
  | .rptr x => x.low n m
  | .fn _ fs cs => AV.lowL n m fs && AV.lowL n m cs
  | .iface _ x => x.low n m
  | _ => true
def AV.lowL (n m : Nat) : List AV → Bool
  | [] => true
  | x :: xs => x.low n m && AV.lowL n m xs
end
mutual
theorem AV.low_of_closed (n m : Nat) : ∀ x : AV, x.closed = true → x.low n m = true
  | .undef, _ => rfl
  | .bool _, _ => rfl
  | .int _ _, _ => rfl
  | .str _, _ => rfl
  | .agg cs, h => AV.lowL_of_closed n m cs h
  | .tup cs, h => AV.lowL_of_closed n m cs h
  | .slice xs t, h => by
    simp only [AV.closed, Bool.and_eq_true] at h
    simp only [AV.low, Bool.and_eq_true]
    refine ⟨?_, AV.lowL_of_closed n m xs h.2⟩
    cases t with
    | own k z => exact absurd h.1 (by simp)
    | no => rfl
    | full => rfl
    | nil => rfl
    | nn => rfl
  | .ptr _ _, h => by cases h
  | .rptr x, h => AV.low_of_closed n m x h
  | .nilp, _ => rfl
  | .praw _, _ => rfl
  | .fn _ fs cs, h => by
    simp only [AV.closed, Bool.and_eq_true] at h
    simp only [AV.low, Bool.and_eq_true]
    exact ⟨AV.lowL_of_closed n m fs h.1, AV.lowL_of_closed n m cs h.2⟩
  | .nilfn, _ => rfl
  | .iface _ x, h => AV.low_of_closed n m x h
  | .nili, _ => rfl
  | .map _, h => by cases h
  | .nilmap, _ => rfl
  | .iter _, h => by cases h
  | .view xs _, h => AV.lowL_of_closed n m xs h
  | .vec _ _ _ _ _, h => by cases h
  | .vptr _ _ _ _ _, h => by cases h
theorem AV.lowL_of_closed (n m : Nat) : ∀ xs : List AV, AV.closedL xs = true → AV.lowL n m xs = true
  | [], _ => rfl
  | x :: xs, h => by
    simp only [AV.closedL, Bool.and_eq_true] at h
    simp only [AV.lowL, Bool.and_eq_true]
    exact ⟨AV.low_of_closed n m x h.1, AV.lowL_of_closed n m xs h.2⟩
end
def Gh.cutTo (g : Gh) (n m : Nat) : Gh := ⟨g.bx.take n, g.tk.take m, g.im⟩
mutual
theorem Rep.low {g : Gh} {n m : Nat} {w : World} : ∀ (x : AV) (v : Value), x.low n m = true → Rep g w x v → Rep (g.cutTo n m) w x v
  | .undef, _, _, _ => trivial
  | .bool _, _, _, h => h
  | .int _ _, _, _, h => h
  | .str _, _, _, h => h
  | .agg cs, _, hc, ⟨vs, e, hl, h1⟩ => ⟨vs, e, RepL.low cs _ hc hl, h1⟩
  | .tup cs, _, hc, ⟨vs, e, hl⟩ => ⟨vs, e, RepL.low cs _ hc hl⟩
  | .slice xs t, _, hc, ⟨a, cap, sz, Vs, e, h1, h2, h3, h4, h5, h6⟩ => by
    simp only [AV.low, Bool.and_eq_true] at hc
    refine ⟨a, cap, sz, Vs, e, h1, h2, ?_, RepL.low xs _ hc.2 h4, h5, h6⟩
    cases t with
    | own k z =>
      obtain ⟨e1, r, e2, e3⟩ := h3
      have hk : k < m := Nat.le_of_ble_eq_true hc.1
      exact ⟨e1, r, by show (g.tk.take m)[k]? = _; rw [List.getElem?_take_of_lt hk]; exact e2, e3⟩
    | no => exact h3
    | full => exact h3
    | nil => exact h3
    | nn => exact h3
  | .ptr i _, _, hc, ⟨b, h1, e⟩ => ⟨b, by show (g.bx.take n)[i]? = _; rw [List.getElem?_take_of_lt (Nat.le_of_ble_eq_true hc)]; exact h1, e⟩
  | .rptr x, _, hc, ⟨b, o, V, e, h1, h2⟩ => ⟨b, o, V, e, h1, Rep.low x _ hc h2⟩
  | .nilp, _, _, h => h
  | .praw _, _, _, h => h
  | .fn _ fs cs, _, hc, ⟨vs, ws, e, h1, h2⟩ => by
    simp only [AV.low, Bool.and_eq_true] at hc
    exact ⟨vs, ws, e, RepL.low fs _ hc.1 h1, RepL.low cs _ hc.2 h2⟩
  | .nilfn, _, _, h => h
  | .iface _ x, _, hc, ⟨u, e, h1⟩ => ⟨u, e, Rep.low x _ hc h1⟩
  | .nili, _, _, h => h
  | .map i, _, hc, ⟨b, h1, e⟩ => ⟨b, by show (g.bx.take n)[i]? = _; rw [List.getElem?_take_of_lt (Nat.le_of_ble_eq_true hc)]; exact h1, e⟩
  | .nilmap, _, _, h => h
  | .iter i, _, hc, ⟨b, h1, e⟩ => ⟨b, by show (g.bx.take n)[i]? = _; rw [List.getElem?_take_of_lt (Nat.le_of_ble_eq_true hc)]; exact h1, e⟩
  | .view xs _, _, hc, ⟨a, cap, sz, Vs, e, h0, h1, h2, h4, h5, h6⟩ => ⟨a, cap, sz, Vs, e, h0, h1, h2, RepL.low xs _ hc h4, h5, h6⟩
  | .vec k _ _ _ _, _, hc, ⟨a, cap, e, h1, h2, h3, h4, h5, r, hr, h6⟩ => ⟨a, cap, e, h1, h2, h3, h4, h5, r, by show (g.tk.take m)[k]? = _; rw [List.getElem?_take_of_lt (Nat.le_of_ble_eq_true hc)]; exact hr, h6⟩
  | .vptr k _ _ _ _, _, hc, ⟨b, o, e, hj, r, hr, h6⟩ => ⟨b, o, e, hj, r, by show (g.tk.take m)[k]? = _; rw [List.getElem?_take_of_lt (Nat.le_of_ble_eq_true hc)]; exact hr, h6⟩
theorem RepL.low {g : Gh} {n m : Nat} {w : World} : ∀ (cs : List AV) (vs : List Value), AV.lowL n m cs = true → RepL g w cs vs → RepL (g.cutTo n m) w cs vs
  | [], _, _, h => h
  | c :: cs, _, hc, ⟨v, rest, e, h1, h2⟩ => by
    simp only [AV.lowL, Bool.and_eq_true] at hc
    exact ⟨v, rest, e, Rep.low c _ hc.1 h1, RepL.low cs _ hc.2 h2⟩
end
def belowM (n m : Nat) : List (AV × AV) → Bool
  | [] => true
  | (k, v) :: l => k.low n m && v.low n m && belowM n m l
def Ob.low (n m : Nat) : Ob → Bool
  | .cells cs => AV.lowL n m cs
  | .map es => belowM n m es
  | .iter _ _ => true
def belowB (n m : Nat) : List Ob → Bool
  | [] => true
  | o :: B => o.low n m && belowB n m B
def belowS (n m : Nat) : Slots → Bool
  | [] => true
  | (_, v) :: s => v.low n m && belowS n m s
def Tok.low (n m : Nat) : Tok → Bool
  | .len _ => true
  | .vec xs => AV.lowL n m xs
def belowT (n m : Nat) : List Tok → Bool
  | [] => true
  | t :: T => t.low n m && belowT n m T
theorem belowT_get {n m : Nat} : ∀ {T : List Tok} {i : Nat} {t : Tok}, belowT n m T = true → T[i]? = some t → t.low n m = true
  | o :: B, 0, ob, h, hi => by simp only [belowT, Bool.and_eq_true] at h; simp at hi; subst hi; exact h.1
  | o :: B, i + 1, ob, h, hi => by simp only [belowT, Bool.and_eq_true] at h; exact belowT_get h.2 (by simpa using hi)
  | [], i, ob, _, hi => by simp at hi
theorem RepM.low {g : Gh} {n m : Nat} {w : World} : ∀ (l : List (AV × AV)) (es : List MapEntry), belowM n m l = true → RepM g w l es → RepM (g.cutTo n m) w l es
  | [], _, _, h => h
  | (k, v) :: l, _, hb, ⟨e, rest, he, h1, h2, h3⟩ => by
    simp only [belowM, Bool.and_eq_true] at hb
    exact ⟨e, rest, he, Rep.low k _ hb.1.1 h1, Rep.low v _ hb.1.2 h2, RepM.low l _ hb.2 h3⟩
theorem ObOk.low {g : Gh} {n m : Nat} {w : World} {b : Nat} {ob : Ob} (h : ob.low n m = true) (ho : ObOk g w b ob) : ObOk (g.cutTo n m) w b ob := by
  cases ob with
  | cells cs => obtain ⟨vals, ty, h1, h2, h3⟩ := ho; exact ⟨vals, ty, h1, RepL.low cs _ h h2, h3⟩
  | map es => obtain ⟨ents, clock, h1, h2⟩ := ho; exact ⟨ents, clock, h1, RepM.low es _ h h2⟩
  | iter s p => exact ho
theorem TokOk.low {g : Gh} {n m : Nat} {w : World} {r : Rec} {t : Tok} (h : t.low n m = true) (ho : TokOk g w r t) : TokOk (g.cutTo n m) w r t := by
  cases t with
  | len n => exact ho
  | vec xs => obtain ⟨h1, h2, h3, Vs, h4, h5⟩ := ho; exact ⟨h1, h2, h3, Vs, RepL.low xs _ h h4, h5⟩
theorem belowB_get {n m : Nat} : ∀ {B : List Ob} {i : Nat} {ob : Ob}, belowB n m B = true → B[i]? = some ob → ob.low n m = true
  | o :: B, 0, ob, h, hi => by simp only [belowB, Bool.and_eq_true] at h; simp at hi; subst hi; exact h.1
  | o :: B, i + 1, ob, h, hi => by simp only [belowB, Bool.and_eq_true] at h; exact belowB_get h.2 (by simpa using hi)
  | [], i, ob, _, hi => by simp at hi
theorem belowS_lk {n m : Nat} : ∀ {s : Slots}, belowS n m s = true → ∀ t, (lk s t).low n m = true
  | [], _, _ => rfl
  | (t', v) :: s, h, t => by
    simp only [belowS, Bool.and_eq_true] at h
    unfold lk
    cases Nat.beq t' t with
    | true => exact h.1
    | false => exact belowS_lk h.2 t
theorem cutTo_inv {g : Gh} {σ : St} {w : World} {n m : Nat} (hi : Inv g σ w) (hB : belowB n m (σ.B.take n) = true) (hT : belowT n m (σ.T.take m) = true) : Inv (g.cutTo n m) ⟨σ.B.take n, σ.T.take m⟩ w where
  lenB := by simp [Gh.cutTo, hi.lenB]
  lenT := by simp [Gh.cutTo, hi.lenT]
  ob i b ob h1 h2 := by
    have e1 : g.bx[i]? = some b := by
      have hlt : i < n := by have := (List.getElem?_eq_some_iff.1 h1).1; simp [Gh.cutTo] at this; omega
      rw [← h1]; exact (List.getElem?_take_of_lt hlt).symm
    have e2 : σ.B[i]? = some ob := by
      have hlt : i < n := by have := (List.getElem?_eq_some_iff.1 h2).1; simp at this; omega
      rw [← h2]; exact (List.getElem?_take_of_lt hlt).symm
    exact (hi.ob i b ob e1 e2).low (belowB_get hB h2)
  nodup := hi.nodup.sublist (List.take_sublist _ _)
  noim b hb o := hi.noim b (List.mem_of_mem_take hb) o
  tok k x r h1 h2 := by
    have hlt : k < m := by have := (List.getElem?_eq_some_iff.1 h1).1; simp [Gh.cutTo] at this; omega
    refine TokOk.low (belowT_get hT h2) ?_
    exact hi.tok k x r (by rw [← h1]; exact (List.getElem?_take_of_lt hlt).symm) (by rw [← h2]; exact (List.getElem?_take_of_lt hlt).symm)
  tkz k r h1 b o ho := by
    have hlt : k < m := by have := (List.getElem?_eq_some_iff.1 h1).1; simp [Gh.cutTo] at this; omega
    obtain ⟨e1, e2, e3⟩ := hi.tkz k r (by rw [← h1]; exact (List.getElem?_take_of_lt hlt).symm) b o ho
    exact ⟨e1, fun hb => e2 (List.mem_of_mem_take hb), e3⟩
  tkd k k' r r' hne h1 h2 b o := by
    have hlt : k < m := by have := (List.getElem?_eq_some_iff.1 h1).1; simp [Gh.cutTo] at this; omega
    have hlt' : k' < m := by have := (List.getElem?_eq_some_iff.1 h2).1; simp [Gh.cutTo] at this; omega
    exact hi.tkd k k' r r' hne (by rw [← h1]; exact (List.getElem?_take_of_lt hlt).symm) (by rw [← h2]; exact (List.getElem?_take_of_lt hlt').symm) b o
  imlt := hi.imlt
  gl := hi.gl
theorem cutTo_ext {g0 g : Gh} {w0 w : World} {n m : Nat} (h : Ext g0 w0 g w) (hn : g0.bx.length ≤ n) (hm : g0.tk.length ≤ m) : Ext g0 w0 (g.cutTo n m) w where
  le := ⟨h.le.im, fun i b hi => by
      show (g.bx.take n)[i]? = _
      rw [List.getElem?_take_of_lt (by have := (List.getElem?_eq_some_iff.1 hi).1; omega)]
      exact h.le.bx i b hi, fun k r hk => by
      obtain ⟨r', h1, h2⟩ := h.le.tk k r hk
      refine ⟨r', ?_, h2⟩
      show (g.tk.take m)[k]? = _
      rw [List.getElem?_take_of_lt (by have := (List.getElem?_eq_some_iff.1 hk).1; omega)]
      exact h1⟩
  size := h.size
  os := h.os
  tape := h.tape
  output := h.output
  fr := h.fr
  frc := h.frc
  newim := h.newim
  newbx b hb := h.newbx b (List.mem_of_mem_take hb)
  newz k r hk b o ho := by
    have hlt : k < m := by have := (List.getElem?_eq_some_iff.1 hk).1; simp [Gh.cutTo] at this; omega
    exact h.newz k r (by rw [← hk]; exact (List.getElem?_take_of_lt hlt).symm) b o ho
mutual
theorem Rep.close {im : Nat → Nat → Prop} {bx bx' : List Nat} {tk tk' : List Rec} {w : World} : ∀ (x : AV) (v : Value), x.closed = true → Rep ⟨bx, tk, im⟩ w x v → Rep ⟨bx', tk', im⟩ w x v
  | .undef, _, _, _ => trivial
  | .bool _, _, _, h => h
  | .int _ _, _, _, h => h
  | .str _, _, _, h => h
  | .agg cs, _, hc, ⟨vs, e, hl, h1⟩ => ⟨vs, e, RepL.close cs _ hc hl, h1⟩
  | .tup cs, _, hc, ⟨vs, e, hl⟩ => ⟨vs, e, RepL.close cs _ hc hl⟩
  | .slice xs t, _, hc, ⟨a, cap, sz, Vs, e, h1, h2, h3, h4, h5, h6⟩ => by
    simp only [AV.closed, Bool.and_eq_true] at hc
    refine ⟨a, cap, sz, Vs, e, h1, h2, ?_, RepL.close xs _ hc.2 h4, h5, h6⟩
    cases t with
    | own k z => exact absurd hc.1 (by simp)
    | no => exact h3
    | full => exact h3
    | nil => exact h3
    | nn => exact h3
  | .ptr _ _, _, hc, _ => by cases hc
  | .rptr x, _, hc, ⟨b, o, V, e, h1, h2⟩ => ⟨b, o, V, e, h1, Rep.close x _ hc h2⟩
  | .nilp, _, _, h => h
  | .praw _, _, _, h => h
  | .fn _ fs cs, _, hc, ⟨vs, ws, e, h1, h2⟩ => by
    simp only [AV.closed, Bool.and_eq_true] at hc
    exact ⟨vs, ws, e, RepL.close fs _ hc.1 h1, RepL.close cs _ hc.2 h2⟩
  | .nilfn, _, _, h => h
  | .iface _ x, _, hc, ⟨u, e, h1⟩ => ⟨u, e, Rep.close x _ hc h1⟩
  | .nili, _, _, h => h
  | .map _, _, hc, _ => by cases hc
  | .nilmap, _, _, h => h
  | .iter _, _, hc, _ => by cases hc
  | .view xs _, _, hc, ⟨a, cap, sz, Vs, e, h0, h1, h2, h4, h5, h6⟩ => ⟨a, cap, sz, Vs, e, h0, h1, h2, RepL.close xs _ hc h4, h5, h6⟩
  | .vec _ _ _ _ _, _, hc, _ => by cases hc
  | .vptr _ _ _ _ _, _, hc, _ => by cases hc
theorem RepL.close {im : Nat → Nat → Prop} {bx bx' : List Nat} {tk tk' : List Rec} {w : World} : ∀ (cs : List AV) (vs : List Value), AV.closedL cs = true → RepL ⟨bx, tk, im⟩ w cs vs → RepL ⟨bx', tk', im⟩ w cs vs
  | [], _, _, h => h
  | c :: cs, _, hc, ⟨v, rest, e, h1, h2⟩ => by
    simp only [AV.closedL, Bool.and_eq_true] at hc
    exact ⟨v, rest, e, Rep.close c _ hc.1 h1, RepL.close cs _ hc.2 h2⟩
end
def Post (g0 : Gh) (w0 : World) (N : Nat) (D : List Deferred) (K : AX → Slots → St → Prop) : Exit → Act → World → Prop := fun e a w =>
  ∃ ae s σ g, AxRep g w ae e ∧ a.tmps.size = N ∧ a.defers = D ∧ Ext g0 w0 g w ∧ Inv g σ w ∧ SRep g w s a.tmps ∧ K ae s σ
def HCode (P : Program) (N : Nat) (D : List Deferred) (c : Code) (K : AX → Slots → St → Prop) (s : Slots) (σ : St) : Prop :=
  ∀ (g : Gh) (w : World) (a : Act), Inv g σ w → SRep g w s a.tmps → a.tmps.size = N → a.defers = D → c.wp P (Post g w N D K) a w
def thn (next : Slots → St → Prop) (K : AX → Slots → St → Prop) : AX → Slots → St → Prop
  | .normal => next
  | .exit id => K (.exit id)
  | .goto l => K (.goto l)
  | .ret => K .ret
  | .pan x => K (.pan x)
def blk (id : Nat) (K : AX → Slots → St → Prop) : AX → Slots → St → Prop
  | .normal => K .normal
  | .exit id' => bif Nat.beq id' id then K .normal else K (.exit id')
  | .goto l => K (.goto l)
  | .ret => K .ret
  | .pan x => K (.pan x)
def scp (K : AX → Slots → St → Prop) : AX → Slots → St → Prop
  | .normal => K .normal
  | .exit id => K (.exit id)
  | .goto _ => fun _ _ => False
  | .ret => K .ret
  | .pan x => K (.pan x)
def Sub : Slots → Slots → Prop
  | [], _ => True
  | (t, v) :: s, s' => lk s' t = v ∧ Sub s s'
theorem Sub.rep {g : Gh} {w : World} {tmps : Array Value} {s' : Slots} (hs : SRep g w s' tmps) : ∀ {s : Slots}, Sub s s' → SRep g w s tmps
  | [], _, _ => trivial
  | (t, v) :: s, h, u => by
    unfold lk
    cases e : Nat.beq t u with
    | true =>
      have := Nat.eq_of_beq_eq_true e
      subst this
      have h1 := hs t
      rw [h.1] at h1
      exact h1
    | false => exact Sub.rep hs h.2 u
section
variable {P : Program} {N : Nat} {D : List Deferred} {K : AX → Slots → St → Prop} {s : Slots} {σ : St}
theorem Post.trans {g g1 : Gh} {w w1 : World} (h : Ext g w g1 w1) {e : Exit} {a : Act} {w' : World} (hp : Post g1 w1 N D K e a w') : Post g w N D K e a w' :=
  let ⟨ae, s, σ, g', h1, h2, h3, h4, h5⟩ := hp
  ⟨ae, s, σ, g', h1, h2, h3, h.trans h4, h5⟩
theorem HCode.weaken {c : Code} {s' : Slots} (h : HCode P N D c K s σ) (hs : Sub s s') : HCode P N D c K s' σ := fun g w a hi hr ha hd => h g w a hi (hs.rep hr) ha hd
theorem HCode.mono {c : Code} {K' : AX → Slots → St → Prop} (h : HCode P N D c K s σ) (hk : ∀ e s σ, K e s σ → K' e s σ) : HCode P N D c K' s σ := fun g w a hi hr ha hd =>
  wp_mono (h g w a hi hr ha hd) fun _ _ _ ⟨ae, s, σ, g', h1, h2, h3, h4, h5, h6, h7⟩ => ⟨ae, s, σ, g', h1, h2, h3, h4, h5, h6, hk _ _ _ h7⟩
theorem HCode.skip (h : K .normal s σ) : HCode P N D .skip K s σ := fun g w a hi hr ha hd => wp_skip ⟨.normal, s, σ, g, rfl, ha, hd, Ext.refl g w, hi, hr, h⟩
theorem HCode.label {l : Nat} (h : K .normal s σ) : HCode P N D (.label l) K s σ := fun g w a hi hr ha hd => wp_label ⟨.normal, s, σ, g, rfl, ha, hd, Ext.refl g w, hi, hr, h⟩
theorem HCode.exit {id : Nat} (h : K (.exit id) s σ) : HCode P N D (.exit id) K s σ := fun g w a hi hr ha hd => wp_exit ⟨.exit id, s, σ, g, rfl, ha, hd, Ext.refl g w, hi, hr, h⟩
theorem HCode.ret (h : K .ret s σ) : HCode P N D .ret K s σ := fun g w a hi hr ha hd => wp_ret ⟨.ret, s, σ, g, rfl, ha, hd, Ext.refl g w, hi, hr, h⟩
theorem HCode.seq {x y : Code} (h : HCode P N D x (thn (HCode P N D y K) K) s σ) : HCode P N D (.seq x y) K s σ := fun g w a hi hr ha hd => by
  refine wp_seq (wp_mono (h g w a hi hr ha hd) ?_)
  rintro e a' w' ⟨ae, s', σ', g', h1, h2, h3, h4, h5, h6, h7⟩
  cases ae with
  | normal =>
    cases (show e = .normal from h1)
    exact wp_mono (h7 g' w' a' h5 h6 h2 h3) fun _ _ _ hp => hp.trans h4
  | exit id => cases (show e = .exit id from h1); exact ⟨.exit id, s', σ', g', rfl, h2, h3, h4, h5, h6, h7⟩
  | goto l => cases (show e = .goto l from h1); exact ⟨.goto l, s', σ', g', rfl, h2, h3, h4, h5, h6, h7⟩
  | ret => cases (show e = .ret from h1); exact ⟨.ret, s', σ', g', rfl, h2, h3, h4, h5, h6, h7⟩
  | pan x => obtain ⟨u, rfl, hu⟩ := h1; exact ⟨.pan x, s', σ', g', ⟨u, rfl, hu⟩, h2, h3, h4, h5, h6, h7⟩
theorem HCode.block {id : Nat} {c : Code} (h : HCode P N D c (blk id K) s σ) : HCode P N D (.block id c) K s σ := fun g w a hi hr ha hd => by
  refine wp_block (wp_mono (h g w a hi hr ha hd) ?_)
  rintro e a' w' ⟨ae, s', σ', g', h1, h2, h3, h4, h5, h6, h7⟩
  cases ae with
  | normal => cases (show e = .normal from h1); exact ⟨.normal, s', σ', g', rfl, h2, h3, h4, h5, h6, h7⟩
  | exit id' =>
    cases (show e = .exit id' from h1)
    show ite _ _ _
    by_cases e : id' = id
    · subst e
      rw [if_pos rfl]
      refine ⟨.normal, s', σ', g', rfl, h2, h3, h4, h5, h6, ?_⟩
      simpa [blk] using h7
    · rw [if_neg e]
      refine ⟨.exit id', s', σ', g', rfl, h2, h3, h4, h5, h6, ?_⟩
      have : Nat.beq id' id = false := by
        cases hh : Nat.beq id' id with
        | false => rfl
        | true => exact absurd (Nat.eq_of_beq_eq_true hh) e
      simpa [blk, this] using h7
  | goto l => cases (show e = .goto l from h1); exact ⟨.goto l, s', σ', g', rfl, h2, h3, h4, h5, h6, h7⟩
  | ret => cases (show e = .ret from h1); exact ⟨.ret, s', σ', g', rfl, h2, h3, h4, h5, h6, h7⟩
  | pan x => obtain ⟨u, rfl, hu⟩ := h1; exact ⟨.pan x, s', σ', g', ⟨u, rfl, hu⟩, h2, h3, h4, h5, h6, h7⟩
theorem HCode.scope {c : Code} (h : HCode P N D c (scp K) s σ) : HCode P N D (.scope c) K s σ := fun g w a hi hr ha hd => by
  refine wp_scope_straight (wp_mono (h g w a hi hr ha hd) ?_)
  rintro e a' w' ⟨ae, s', σ', g', h1, h2, h3, h4, h5, h6, h7⟩
  cases ae with
  | normal => cases (show e = .normal from h1); exact ⟨.normal, s', σ', g', rfl, h2, h3, h4, h5, h6, h7⟩
  | exit id => cases (show e = .exit id from h1); exact ⟨.exit id, s', σ', g', rfl, h2, h3, h4, h5, h6, h7⟩
  | goto l => exact h7.elim
  | ret => cases (show e = .ret from h1); exact ⟨.ret, s', σ', g', rfl, h2, h3, h4, h5, h6, h7⟩
  | pan x => obtain ⟨u, rfl, hu⟩ := h1; exact ⟨.pan x, s', σ', g', ⟨u, rfl, hu⟩, h2, h3, h4, h5, h6, h7⟩
theorem HCode.cond_true {c : Operand} {x y : Code} (hc : ev s c = .bool true) (h : HCode P N D x K s σ) : HCode P N D (.cond c x y) K s σ := fun g w a hi hr ha hd => by
  have h1 := rep_ev hi.gl hr c
  rw [hc] at h1
  exact wp_cond_true h1 (h g w a hi hr ha hd)
theorem HCode.cond_false {c : Operand} {x y : Code} (hc : ev s c = .bool false) (h : HCode P N D y K s σ) : HCode P N D (.cond c x y) K s σ := fun g w a hi hr ha hd => by
  have h1 := rep_ev hi.gl hr c
  rw [hc] at h1
  exact wp_cond_false h1 (h g w a hi hr ha hd)
theorem HCode.cond {c : Operand} {x y : Code} {b : Bool} (hc : ev s c = .bool b) (ht : b = true → HCode P N D x K s σ) (hf : b = false → HCode P N D y K s σ) : HCode P N D (.cond c x y) K s σ := by
  cases b with
  | true => exact HCode.cond_true hc (ht rfl)
  | false => exact HCode.cond_false hc (hf rfl)
theorem wp_loop_rel {c : Code} {Q : Exit → Act → World → Prop} (J : Nat → Act → World → Prop)
    (round : ∀ n a w, J n a w → c.wp P (Exit.then (fun a' w' => ∃ m, m < n ∧ J m a' w') Q) a w) {n : Nat} {a : Act} {w : World} (h : J n a w) : (Code.loop c).wp P Q a w := by
  intro b k cs
  have key : ∀ n a w, J n a w → ∃ e a' w', Q e a' w' ∧ Arrives P (lone (b.at a (.code c :: .inLoop c :: k)) cs w) b k cs e a' w' := by
    intro n
    induction n using Nat.strongRecOn with
    | ind n ih =>
      intro a w h
      obtain ⟨e, a₁, w₁, hq, harr⟩ := round n a w h b (.inLoop c :: k) cs
      cases e with
      | normal =>
        obtain ⟨m, hm, hJ⟩ := hq
        obtain ⟨e₂, a₂, w₂, hq₂, harr₂⟩ := ih m hm a₁ w₁ hJ
        exact ⟨e₂, a₂, w₂, hq₂, .of_steps (Steps.trans harr (.one step_inLoop)) harr₂⟩
      | exit id => exact ⟨_, a₁, w₁, hq, .pass (x := .inLoop c) rfl (fun _ _ => .inl (by simp)) harr⟩
      | goto l => exact ⟨_, a₁, w₁, hq, .pass (x := .inLoop c) rfl (fun _ _ => .inl (by simp)) harr⟩
      | ret => exact ⟨_, a₁, w₁, hq, .pass (x := .inLoop c) rfl (fun _ _ => .inl (by simp)) harr⟩
      | panic ch => exact ⟨_, a₁, w₁, hq, .pass (x := .inLoop c) rfl (fun _ _ => .inl (by simp)) harr⟩
      | outgrown => exact ⟨_, a₁, w₁, hq, .pass (x := .inLoop c) rfl (fun _ _ => .inl (by simp)) harr⟩
  obtain ⟨e, a', w', hq, harr⟩ := key n a w h
  exact ⟨e, a', w', hq, .of_steps (.one step_loop) harr⟩
theorem HCode.cond_yes {c : Operand} {x y : Code} {b : Bool} (hc : ev s c = .bool b) (hb : b = true) (h : HCode P N D x K s σ) : HCode P N D (.cond c x y) K s σ := HCode.cond_true (by rw [hc, hb]) h
theorem HCode.cond_no {c : Operand} {x y : Code} {b : Bool} (hc : ev s c = .bool b) (hb : b = false) (h : HCode P N D y K s σ) : HCode P N D (.cond c x y) K s σ := HCode.cond_false (by rw [hc, hb]) h
theorem HCode.loop {c : Code} (I : Nat → Slots → St → Prop) {n : Nat} {s0 : Slots} (hs0 : Sub s0 s) (h0 : I n s0 σ)
    (round : ∀ n s1 σ1, I n s1 σ1 → HCode P N D c (thn (fun s' σ' => ∃ m, m < n ∧ ∃ s2, Sub s2 s' ∧ belowS σ.B.length σ.T.length s2 = true ∧ (belowB σ.B.length σ.T.length (σ'.B.take σ.B.length) && belowT σ.B.length σ.T.length (σ'.T.take σ.T.length)) = true ∧
      I m s2 ⟨σ'.B.take σ.B.length, σ'.T.take σ.T.length⟩) K) s1 σ1) : HCode P N D (.loop c) K s σ := fun g w a hi hr ha hd => by
  refine wp_loop_rel (fun n a' w' => ∃ s1 σ1 g1, I n s1 σ1 ∧ Ext g w g1 w' ∧ Inv g1 σ1 w' ∧ SRep g1 w' s1 a'.tmps ∧ a'.tmps.size = N ∧ a'.defers = D) ?_ (n := n) ⟨s0, σ, g, h0, Ext.refl g w, hi, hs0.rep hr, ha, hd⟩
  have hb0 := hi.lenB
  have ht0 := hi.lenT
  rintro n a w1 ⟨s1, σ1, g1, hI, hx, hi, hr, ha, hd⟩
  refine wp_mono (round n s1 σ1 hI g1 w1 a hi hr ha hd) ?_
  rintro e a' w' ⟨ae, s', σ', g', e1, e2, e3, e4, e5, e6, e7⟩
  cases ae with
  | normal =>
    cases (show e = .normal from e1)
    obtain ⟨m, hm, s2, hs2, hbs, hbBT, hI2⟩ := e7
    obtain ⟨hbB, hbT⟩ := (Bool.and_eq_true _ _).mp hbBT
    exact ⟨m, hm, s2, _, _, hI2, cutTo_ext (hx.trans e4) (Nat.le_of_eq hb0) (Nat.le_of_eq ht0), cutTo_inv e5 hbB hbT, fun t => Rep.low _ _ (belowS_lk hbs t) (hs2.rep e6 t), e2, e3⟩
  | exit id => cases (show e = .exit id from e1); exact ⟨.exit id, s', σ', g', rfl, e2, e3, hx.trans e4, e5, e6, e7⟩
  | goto l => cases (show e = .goto l from e1); exact ⟨.goto l, s', σ', g', rfl, e2, e3, hx.trans e4, e5, e6, e7⟩
  | ret => cases (show e = .ret from e1); exact ⟨.ret, s', σ', g', rfl, e2, e3, hx.trans e4, e5, e6, e7⟩
  | pan x => obtain ⟨u, rfl, hu⟩ := e1; exact ⟨.pan x, s', σ', g', ⟨u, rfl, hu⟩, e2, e3, hx.trans e4, e5, e6, e7⟩
def dstOk (N : Nat) : List Oper → Bool
  | [] => true
  | o :: rest => (match o.dst with | some d => Nat.blt d N | none => true) && dstOk N rest
theorem dstOk_spec {N : Nat} : ∀ {l : List Oper}, dstOk N l = true → ∀ d, (∃ o' ∈ l, o'.dst = some d) → d < N
  | [], _, _, ⟨_, h, _⟩ => by cases h
  | o :: rest, h, d, ⟨o', hm, hd⟩ => by
    unfold dstOk at h
    rw [Bool.and_eq_true] at h
    rcases List.mem_cons.1 hm with rfl | hm
    · have := h.1
      rw [hd] at this
      simpa using this
    · exact dstOk_spec h.2 d ⟨o', hm, hd⟩
theorem HCode.region {id : Nat} {ops : Array Oper} (hN : dstOk N ops.toList = true) (h : AOps P ops false K ops.toList [] s σ) : HCode P N D (.region id ops false) K s σ := fun g w a hi hr ha hd =>
  wp_region_list (aops_seq (Q := Post g w N D K) (g0 := g) (w0 := w) (D := D) (K := K) (dstOk_spec hN)
    (fun s' σ' g' w' a' h1 h2 h3 h4 h5 h6 => ⟨.normal, s', σ', g', rfl, h1, h2, h3, h4, h5, h6⟩)
    (fun x s' σ' g' w' a' u h1 h2 h3 h4 h5 h6 h7 => ⟨.pan x, s', σ', g', ⟨u, rfl, h7⟩, h1, h2, h3, h4, h5, h6⟩)
    ops.toList [] s σ g w a (fun _ h => h) ha hd (Ext.refl g w) hi hr h)
theorem HCode.region_draw {id : Nat} {ops : Array Oper} (hmix : P.follows .mixedOrders = true) (hN : dstOk N ops.toList = true) (h : AOps P ops true K ops.toList [] s σ) : HCode P N D (.region id ops true) K s σ := fun g w a hi hr ha hd =>
  aops_draw (Q := Post g w N D K) hmix (dstOk_spec hN) ha hd hi hr
    (fun s' σ' g' w' a' h1 h2 h3 h4 h5 h6 => ⟨.normal, s', σ', g', rfl, h1, h2, h3, h4, h5, h6⟩) h
inductive AEnd where
  | ret (v : AV)
  | pan (v : AV)
def EndRep (g : Gh) (w : World) : AEnd → Ending → Prop
  | .ret v, e => ∃ u, e = .returned u ∧ Rep g w v u
  | .pan v, e => ∃ u, e = .panicked [{ v := u, recovered := false }] ∧ Rep g w v u
def Callable (P : Program) (f : FuncId) : Prop := ∃ fn, P.funcs[f]? = some fn ∧ (fn.name == "runtime.NumGoroutine") = false ∧ fn.body.isNone = false
def AFn (P : Program) (f : FuncId) (args : List AV) (σ : St) (post : AEnd → St → Prop) : Prop :=
  Callable P f ∧ ∀ (g : Gh) (w : World) (vals : Array Value), Inv g σ w → RepL g w args vals.toList →
    Calls P f vals w fun e w' => ∃ g' σ' x, Ext g w g' w' ∧ Inv g' σ' w' ∧ EndRep g' w' x e ∧ post x σ'
def PFn (P : Program) (f : FuncId) (args : List AV) (r : AV) : Prop :=
  Callable P f ∧ AV.closedL args = true ∧ ∀ (im : Nat → Nat → Prop) (w : World) (vals : Array Value), (∀ b o, im b o → b < w.heap.size) → GlobOk im w → RepL ⟨[], [], im⟩ w args vals.toList →
    Calls P f vals w fun e w' => ∃ im', Ext ⟨[], [], im⟩ w ⟨[], [], im'⟩ w' ∧ (∀ b o, im' b o → b < w'.heap.size) ∧ ∃ u, e = .returned u ∧ Rep ⟨[], [], im'⟩ w' r u
def argSlots : Nat → List AV → Slots
  | _, [] => []
  | k, v :: vs => (k, v) :: argSlots (k + 1) vs
theorem lk_argSlots : ∀ (vs : List AV) (k t : Nat), lk (argSlots k vs) t = if t < k then .undef else (vs[t - k]?).getD .undef
  | [], k, t => by simp [argSlots, lk]
  | v :: vs, k, t => by
    simp only [argSlots, lk]
    cases e : Nat.beq k t with
    | true =>
      have := Nat.eq_of_beq_eq_true e
      subst this
      simp
    | false =>
      have hne : k ≠ t := Nat.ne_of_beq_eq_false e
      rw [cond_false, lk_argSlots vs (k + 1) t]
      by_cases h : t < k
      · rw [if_pos h, if_pos (by omega)]
      · rw [if_neg h, if_neg (by omega), show t - k = (t - (k + 1)) + 1 by omega, List.getElem?_cons_succ]
def resAV (s : Slots) : List Nat → AV
  | [t] => lk s t
  | ts => .tup (ts.map (lk s))
def resV (tmps : Array Value) : List Nat → Value
  | [t] => tmps.getD t undef
  | ts => .tuple (ts.map fun t => tmps.getD t undef).toArray
theorem run_results {fn : Func} {ts : List Nat} (h : fn.results = (ts.map ResultVar.tmp).toArray) (hn : ts.length ≤ 6) (tmps : Array Value) (P : Program) (w : World) :
    (results fn tmps).run P w = .ok (resV tmps ts) w := by
  match ts, hn with
  | [], _ => simp [results, h, resV]
  | [a], _ => simp [results, h, resV]
  | [a, b], _ => simp [results, h, resV]
  | [a, b, c], _ => simp [results, h, resV]
  | [a, b, c, d], _ => simp [results, h, resV]
  | [a, b, c, d, e], _ => simp [results, h, resV]
  | [a, b, c, d, e, f], _ => simp [results, h, resV]
  | _ :: _ :: _ :: _ :: _ :: _ :: _ :: _, hn => simp at hn
theorem rep_tuple {g : Gh} {w : World} {s : Slots} {tmps : Array Value} (hs : SRep g w s tmps) : ∀ ts : List Nat, RepL g w (ts.map (lk s)) (ts.map fun t => tmps.getD t undef)
  | [] => rfl
  | t :: ts => ⟨_, _, rfl, hs t, rep_tuple hs ts⟩
theorem rep_resAV {g : Gh} {w : World} {s : Slots} {tmps : Array Value} (hs : SRep g w s tmps) (ts : List Nat) :
    Rep g w (resAV s ts) (resV tmps ts) := by
  match ts with
  | [t] => exact hs t
  | [] => exact ⟨#[], rfl, rfl⟩
  | a :: b :: ts => exact ⟨_, rfl, by simpa using rep_tuple hs (a :: b :: ts)⟩
def fin (ts : List Nat) (post : AEnd → St → Prop) : AX → Slots → St → Prop
  | .normal => fun s σ => post (.ret (resAV s ts)) σ
  | .ret => fun s σ => post (.ret (resAV s ts)) σ
  | .pan x => fun _ σ => post (.pan x) σ
  | _ => fun _ _ => False
theorem AFn.enter {f : FuncId} {fn : Func} {c : Code} {args : List AV} {σ : St} {post : AEnd → St → Prop} (ts : List Nat) {N : Nat} (hf : P.funcs[f]? = some fn) (hb : fn.body = some c) (hN : fn.ntmps = N)
    (hname : (fn.name == "runtime.NumGoroutine") = false) (hargs : Nat.ble args.length N = true) (hres : fn.results = (ts.map ResultVar.tmp).toArray) (hn : ts.length ≤ 6)
    (h : HCode P N [] c (fin ts post) (argSlots 0 args) σ) : AFn P f args σ post := by
  refine ⟨⟨fn, hf, hname, by rw [hb]; rfl⟩, fun g w vals hi hl => ?_⟩
  have hargs' : args.length ≤ N := Nat.le_of_ble_eq_true hargs
  have hlen : vals.size = args.length := by simpa using hl.length
  refine calls_of_wp hf hb (wp_mono (h g w _ hi (fun t => ?_) ?_ rfl) ?_)
  · rw [lk_argSlots]
    simp only [Nat.not_lt_zero, if_false, Nat.sub_zero]
    cases e : args[t]? with
    | none => trivial
    | some v =>
      obtain ⟨u, h1, h2⟩ := hl.get e
      have : (vals ++ Array.replicate (fn.ntmps - vals.size) undef).getD t undef = u := by
        rw [Array.getElem?_toList] at h1
        have hlt := (Array.getElem?_eq_some_iff.1 h1).1
        simp only [Array.getD_eq_getD_getElem?]
        rw [Array.getElem?_append_left hlt, h1]
        rfl
      rw [this]
      exact h2
  · simp; omega
  · rintro e a w' ⟨ae, s', σ', g', h1, h2, h3, h4, h5, h6, h7⟩
    have hr := run_results hres hn a.tmps P w'
    have hv := rep_resAV h6 ts
    cases ae with
    | normal => cases (show e = .normal from h1); exact ⟨h3, _, hr, g', σ', .ret _, h4, h5, ⟨_, rfl, hv⟩, h7⟩
    | ret => cases (show e = .ret from h1); exact ⟨h3, _, hr, g', σ', .ret _, h4, h5, ⟨_, rfl, hv⟩, h7⟩
    | exit id => exact h7.elim
    | goto l => exact h7.elim
    | pan x => obtain ⟨u, rfl, hu⟩ := h1; exact ⟨h3, g', σ', .pan x, h4, h5, ⟨u, rfl, hu⟩, h7⟩
end
def Weak (x y : AV) : Prop := ∀ (g : Gh) (w : World) (v : Value), Rep g w x v → Rep g w y v
def WeakL (xs ys : List AV) : Prop := ∀ (g : Gh) (w : World) (vs : List Value), RepL g w xs vs → RepL g w ys vs
theorem Weak.refl (x : AV) : Weak x x := fun _ _ _ h => h
theorem Weak.undef (x : AV) : Weak x .undef := fun _ _ _ _ => trivial
theorem WeakL.refl (xs : List AV) : WeakL xs xs := fun _ _ _ h => h
theorem WeakL.cons {x y : AV} {xs ys : List AV} (h : Weak x y) (hs : WeakL xs ys) : WeakL (x :: xs) (y :: ys) := fun g w _ ⟨v, rest, e, h1, h2⟩ => ⟨v, rest, e, h g w _ h1, hs g w _ h2⟩
theorem Weak.agg {xs ys : List AV} (h : WeakL xs ys) : Weak (.agg xs) (.agg ys) := fun g w _ ⟨vs, e, h1, h2⟩ => ⟨vs, e, h g w _ h1, h2⟩
theorem Weak.tup {xs ys : List AV} (h : WeakL xs ys) : Weak (.tup xs) (.tup ys) := fun g w _ ⟨vs, e, h1⟩ => ⟨vs, e, h g w _ h1⟩
theorem Weak.slice {xs ys : List AV} {t : Tk} (h : WeakL xs ys) : Weak (.slice xs t) (.slice ys t) := fun g w _ ⟨a, cap, sz, Vs, e, h1, h2, h3, h4, h5, h6⟩ =>
  ⟨a, cap, sz, Vs, e, h1, h2, h3, h g w _ h4, h5, h6⟩
theorem Weak.no {xs ys : List AV} {t : Tk} (h : WeakL xs ys) : Weak (.slice xs t) (.slice ys .no) := fun g w _ ⟨a, cap, sz, Vs, e, h1, h2, _, h4, h5, h6⟩ =>
  ⟨a, cap, sz, Vs, e, h1, h2, trivial, h g w _ h4, h5, h6⟩
section
variable {P : Program}
theorem AFn.plain {f : FuncId} {args : List AV} {r : AV} (hc : r.closed = true) (ha : AV.closedL args = true) (h : AFn P f args ⟨[], []⟩ (fun e _ => ∃ v, e = .ret v ∧ Weak v r)) : PFn P f args r := by
  refine ⟨h.1, ha, fun im w vals him hgl hl => ?_⟩
  have hi : Inv ⟨[], [], im⟩ ⟨[], []⟩ w := ⟨rfl, rfl, fun i b ob h => by simp at h, List.nodup_nil, fun b h => by simp at h, fun k t r h => by simp at h, fun k r h => by simp at h,
    fun k k' r r' _ h => by simp at h, him, hgl⟩
  refine (h.2 _ w vals hi hl).mono ?_
  rintro e w' ⟨g', σ', x, h1, h2, h3, v, rfl, hw⟩
  obtain ⟨u, rfl, hu⟩ := h3
  obtain ⟨bx', tk', im'⟩ := g'
  refine ⟨im', ⟨⟨h1.le.im, fun i b h => by simp at h, fun k r h => by simp at h⟩, h1.size, h1.os, h1.tape, h1.output, h1.fr, h1.frc, h1.newim, fun b h => by simp at h, fun k r h => by simp at h⟩, h2.imlt, u, rfl, Rep.close r u hc (hw _ _ _ hu)⟩
end
theorem bare_ext {g : Gh} {σ : St} {w w' : World} {im' : Nat → Nat → Prop} (hi : Inv g σ w) (hx : Ext ⟨[], [], g.im⟩ w ⟨[], [], im'⟩ w') (hl : ∀ b o, im' b o → b < w'.heap.size) :
    Ext g w ⟨g.bx, g.tk, im'⟩ w' ∧ Inv ⟨g.bx, g.tk, im'⟩ σ w' := by
  have hfr : ∀ b, b < w.heap.size → w'.heap[b]? = w.heap[b]? := fun b hb => hx.fr b hb (by simp) (fun k r h => by simp at h)
  have hcell : ∀ b o, b < w.heap.size → w'.cell? ⟨b, o, none⟩ = w.cell? ⟨b, o, none⟩ ∧ w'.frozen? ⟨b, o, none⟩ = w.frozen? ⟨b, o, none⟩ := fun b o hb => hx.frc b o hb (by simp) (fun k r h => by simp at h)
  have hnew : ∀ b o, im' b o → g.im b o ∨ w.heap.size ≤ b := fun b o h => by
    rcases hx.newim b o h with h | h | ⟨k, r, h, _⟩
    · exact .inl h
    · exact .inr h
    · simp at h
  have hbx : ∀ b, b ∈ g.bx → b < w.heap.size := fun b hb => by
    obtain ⟨i, hi', rfl⟩ := List.getElem_of_mem hb
    have hlt : i < σ.B.length := by rw [← hi.lenB]; exact hi'
    exact (hi.ob i _ _ (List.getElem?_eq_getElem hi') (List.getElem?_eq_getElem hlt)).lt
  have hz : ∀ (k : Nat) (r : Rec), g.tk[k]? = some r → ∀ b o, r.zone b o → b < w.heap.size := fun k r hk b o ho => by
    obtain ⟨v, hv⟩ := (hi.tkz k r hk b o ho).2.2.1
    unfold World.cell? at hv
    cases hb : w.heap[b]? with
    | none => simp [hb] at hv
    | some x => exact (Array.getElem?_eq_some_iff.1 hb).1
  have hle : Le g w ⟨g.bx, g.tk, im'⟩ w' := ⟨hx.le.im, fun _ _ h => h, fun _ r h => ⟨r, h, .inl rfl⟩⟩
  refine ⟨⟨hle, hx.size, hx.os, hx.tape, hx.output, fun b hb _ _ => hfr b hb, fun b o hb _ _ => hcell b o hb, fun b o h => (hnew b o h).elim .inl (fun h => .inr (.inl h)), fun b h => .inl h, fun k r h b o ho => .inr ⟨r, h, ho⟩⟩,
    ⟨hi.lenB, hi.lenT, fun i b ob h1 h2 => (hi.ob i b ob h1 h2).mono hle (hfr b (hbx b (List.mem_of_getElem? h1))), hi.nodup, fun b hb o h => ?_, fun k t r hk ht => (hi.tok k t r hk ht).mono hle fun b o ho => (hcell b o (hz k r hk b o ho)).1, fun k r hk b o ho => ?_, hi.tkd, hl, hi.gl.le hle⟩⟩
  · rcases hnew b o h with h | h
    · exact hi.noim b hb o h
    · have := hbx b hb; omega
  · obtain ⟨h1, h2, h3, h4⟩ := hi.tkz k r hk b o ho
    have hb := hz k r hk b o ho
    refine ⟨fun h => ?_, h2, ?_, (hcell b o hb).2.trans h4⟩
    · rcases hnew b o h with h | h
      · exact h1 h
      · omega
    · rw [(hcell b o hb).1]; exact h3
end Go.Av
