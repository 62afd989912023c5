/-
  Abstract states, their invariant over memory, how memory may grow; steps of single operations.
-/
import Derived.Test.YtajddgpkflbnaaaAvBase
namespace Go.Av
open Go

/-- Abstract objects: variables in memory; maps; iterators over strings. -/
inductive Ob where
  | cells (cs : List AV)
  | map (es : List (AV × AV))
  | iter (s : List UInt8) (pos : Nat)

/-- Of each token: the length of the slice that holds it (its elements are never written any more, the room behind it is the walk's own); or what the slice holds (all of it is the walk's own). -/
inductive Tok where
  | len (n : Nat)
  | vec (xs : List AV)

/-- The abstract state: objects; tokens. -/
structure St where
  B : List Ob
  T : List Tok

/-- Elements that lie in memory, whoever may write them. -/
abbrev InCells (w : World) (b sz o : Nat) (Vs : List Value) : Prop := InMemE ⟨[], [], fun _ _ => True⟩ w b sz o Vs

def TokOk (g : Gh) (w : World) (r : Rec) : Tok → Prop
  | .len n => r.n = n ∧ r.lo = n
  | .vec xs => r.n = xs.length ∧ r.lo = 0 ∧ r.n ≤ r.cap ∧ ∃ Vs, RepL g w xs Vs ∧ (r.base = none → Vs = []) ∧ (∀ V ∈ Vs, V.cells.size = r.sz) ∧
      ∀ p : Addr, r.base = some p → (p.spot = none ∨ r.cap = 0) ∧ InCells w p.block r.sz p.off Vs

theorem TokOk.mono {g g' : Gh} {w w' : World} (h : Le g w g' w') {r : Rec} (hc : ∀ b o, r.zone b o → w'.cell? ⟨b, o, none⟩ = w.cell? ⟨b, o, none⟩) {t : Tok} (ht : TokOk g w r t) : TokOk g' w' r t := by
  cases t with
  | len n => exact ht
  | vec xs =>
    obtain ⟨h1, h2, h3, Vs, h4, h5, h6, h7⟩ := ht
    refine ⟨h1, h2, h3, Vs, RepL.mono h _ _ h4, h5, h6, fun p hp => ⟨(h7 p hp).1, fun i V hi => ⟨((h7 p hp).2 i V hi).1, fun j u hj => ?_⟩⟩⟩
    obtain ⟨e1, e2⟩ := (h7 p hp).2 i V hi
    obtain ⟨_, e3, e4⟩ := e2 j u hj
    refine ⟨trivial, (hc _ _ ⟨p, hp, rfl, ?_, ?_⟩).trans e3, e4⟩
    · rw [h2]; omega
    · have hj' : j < r.sz := by have := (Array.getElem?_eq_some_iff.1 hj).1; omega
      have hil : i < xs.length := by have := (List.getElem?_eq_some_iff.1 hi).1; rw [h4.length] at this; exact this
      have : (i + 1) * r.sz ≤ r.cap * r.sz := Nat.mul_le_mul_right _ (by omega)
      rw [Nat.succ_mul] at this
      omega

def RepM (g : Gh) (w : World) : List (AV × AV) → List MapEntry → Prop
  | [], es => es = []
  | (k, v) :: l, es => ∃ e rest, es = e :: rest ∧ Rep g w k e.key ∧ Rep g w v e.val ∧ RepM g w l rest

def ObOk (g : Gh) (w : World) (b : Nat) : Ob → Prop
  | .cells cs => ∃ (vals : Array Value) (ty : TypeId), w.heap[b]? = some (.cells vals ty (0, 0)) ∧ RepL g w cs vals.toList ∧ ∀ u ∈ vals.toList, u.oneCell' = true
  | .map es => ∃ (ents : Array MapEntry) (clock : Nat), w.heap[b]? = some (.map ents clock) ∧ RepM g w es ents.toList
  | .iter s pos => w.heap[b]? = some (.stringIter ⟨s.toArray⟩ pos)

theorem RepM.mono {g g' : Gh} {w w' : World} (h : Le g w g' w') : ∀ (l : List (AV × AV)) (es : List MapEntry), RepM g w l es → RepM g' w' l es
  | [], _, hv => hv
  | (_, _) :: l, _, ⟨e, rest, he, h1, h2, h3⟩ => ⟨e, rest, he, Rep.mono h _ _ h1, Rep.mono h _ _ h2, RepM.mono h l _ h3⟩

theorem ObOk.mono {g g' : Gh} {w w' : World} (h : Le g w g' w') {b : Nat} {ob : Ob} (hb : w'.heap[b]? = w.heap[b]?) (ho : ObOk g w b ob) : ObOk g' w' b ob := by
  cases ob with
  | cells cs => obtain ⟨vals, ty, h1, h2, h3⟩ := ho; exact ⟨vals, ty, hb.trans h1, RepL.mono h _ _ h2, h3⟩
  | map es => obtain ⟨ents, clock, h1, h2⟩ := ho; exact ⟨ents, clock, hb.trans h1, RepM.mono h _ _ h2⟩
  | iter s pos => exact hb.trans ho

theorem ObOk.lt {g : Gh} {w : World} {b : Nat} {ob : Ob} (ho : ObOk g w b ob) : b < w.heap.size := by
  have : ∃ x, w.heap[b]? = some x := by
    cases ob with
    | cells cs => obtain ⟨vals, ty, h1, _⟩ := ho; exact ⟨_, h1⟩
    | map es => obtain ⟨ents, clock, h1, _⟩ := ho; exact ⟨_, h1⟩
    | iter s pos => exact ⟨_, ho⟩
  obtain ⟨x, hx⟩ := this
  exact (Array.getElem?_eq_some_iff.1 hx).1

/-- The invariant. -/
structure Inv [Globals] (g : Gh) (σ : St) (w : World) : Prop where
  lenB : g.bx.length = σ.B.length
  lenT : g.tk.length = σ.T.length
  ob : ∀ (i b : Nat) (ob : Ob), g.bx[i]? = some b → σ.B[i]? = some ob → ObOk g w b ob
  nodup : g.bx.Nodup
  noim : ∀ b, b ∈ g.bx → ∀ o, ¬ g.im b o
  tok : ∀ (k : Nat) (t : Tok) (r : Rec), g.tk[k]? = some r → σ.T[k]? = some t → TokOk g w r t
  tkz : ∀ (k : Nat) (r : Rec), g.tk[k]? = some r → ∀ b o, r.zone b o → ¬ g.im b o ∧ b ∉ g.bx ∧ (∃ v, w.cell? ⟨b, o, none⟩ = some v) ∧ w.frozen? ⟨b, o, none⟩ = false
  tkd : ∀ (k k' : Nat) (r r' : Rec), k ≠ k' → g.tk[k]? = some r → g.tk[k']? = some r' → ∀ b o, r.zone b o → ¬ r'.zone b o
  imlt : ∀ b o, g.im b o → b < w.heap.size
  gl : GlobOk g.im w

/-- From (g, w) on to (g', w'): what was there goes on; only what g owns has changed; what is new lies in new blocks or in a token's own zone. -/
structure Ext (g : Gh) (w : World) (g' : Gh) (w' : World) : Prop where
  le : Le g w g' w'
  size : w.heap.size ≤ w'.heap.size
  os : w'.os = w.os
  tape : w'.tape = w.tape
  output : w'.output = w.output
  fr : ∀ b, b < w.heap.size → b ∉ g.bx → (∀ (k : Nat) (r : Rec), g.tk[k]? = some r → ∀ o, ¬ r.zone b o) → w'.heap[b]? = w.heap[b]?
  frc : ∀ b o, b < w.heap.size → b ∉ g.bx → (∀ (k : Nat) (r : Rec), g.tk[k]? = some r → ¬ r.zone b o) → w'.cell? ⟨b, o, none⟩ = w.cell? ⟨b, o, none⟩ ∧ w'.frozen? ⟨b, o, none⟩ = w.frozen? ⟨b, o, none⟩
  newim : ∀ b o, g'.im b o → g.im b o ∨ w.heap.size ≤ b ∨ ∃ (k : Nat) (r : Rec), g.tk[k]? = some r ∧ r.zone b o
  newbx : ∀ b, b ∈ g'.bx → b ∈ g.bx ∨ w.heap.size ≤ b
  newz : ∀ (k : Nat) (r' : Rec), g'.tk[k]? = some r' → ∀ b o, r'.zone b o → w.heap.size ≤ b ∨ ∃ r, g.tk[k]? = some r ∧ r.zone b o

theorem Ext.refl (g : Gh) (w : World) : Ext g w g w :=
  ⟨Le.refl g w, Nat.le_refl _, rfl, rfl, rfl, fun _ _ _ _ => rfl, fun _ _ _ _ _ => ⟨rfl, rfl⟩, fun _ _ h => .inl h, fun _ h => .inl h, fun _ r h _ _ hz => .inr ⟨r, h, hz⟩⟩

theorem Ext.trans {g g1 g2 : Gh} {w w1 w2 : World} (h : Ext g w g1 w1) (k : Ext g1 w1 g2 w2) : Ext g w g2 w2 where
  le := h.le.trans k.le
  size := Nat.le_trans h.size k.size
  os := k.os.trans h.os
  tape := k.tape.trans h.tape
  output := k.output.trans h.output
  fr b hb hn hz := by
    have hn1 : b ∉ g1.bx := fun hm => (h.newbx b hm).elim hn (fun hs => by omega)
    refine (k.fr b (Nat.lt_of_lt_of_le hb h.size) hn1 (fun i r hr o ho => ?_)).trans (h.fr b hb hn hz)
    rcases h.newz i r hr b o ho with hs | ⟨r0, h0, hz0⟩
    · omega
    · exact hz i r0 h0 o hz0
  frc b o hb hn hz := by
    have hn1 : b ∉ g1.bx := fun hm => (h.newbx b hm).elim hn (fun hs => by omega)
    have h1 := h.frc b o hb hn hz
    have h2 := k.frc b o (Nat.lt_of_lt_of_le hb h.size) hn1 (fun i r hr ho => by
      rcases h.newz i r hr b o ho with hs | ⟨r0, h0, hz0⟩
      · omega
      · exact hz i r0 h0 hz0)
    exact ⟨h2.1.trans h1.1, h2.2.trans h1.2⟩
  newim b o hi := by
    rcases k.newim b o hi with hi | hs | ⟨i, r, hr, hz⟩
    · exact h.newim b o hi
    · exact .inr (.inl (Nat.le_trans h.size hs))
    · rcases h.newz i r hr b o hz with hs | ⟨r0, h0, hz0⟩
      · exact .inr (.inl hs)
      · exact .inr (.inr ⟨i, r0, h0, hz0⟩)
  newbx b hm := by
    rcases k.newbx b hm with hm | hs
    · exact h.newbx b hm
    · exact .inr (Nat.le_trans h.size hs)
  newz i r' hr b o hz := by
    rcases k.newz i r' hr b o hz with hs | ⟨r1, h1, hz1⟩
    · exact .inl (Nat.le_trans h.size hs)
    · exact h.newz i r1 h1 b o hz1

/-- A draw changes nothing. -/
theorem Ext.drew (g : Gh) (w : World) (n : Nat) : Ext g w g { w with drawn := n } :=
  ⟨⟨fun _ _ h => ⟨h, rfl⟩, fun _ _ h => h, fun _ r h => ⟨r, h, .inl rfl⟩⟩, Nat.le_refl _, rfl, rfl, rfl, fun _ _ _ _ => rfl, fun _ _ _ _ _ => ⟨rfl, rfl⟩, fun _ _ h => .inl h, fun _ h => .inl h, fun _ r h _ _ hz => .inr ⟨r, h, hz⟩⟩

theorem Inv.drew [Globals] {g : Gh} {σ : St} {w : World} (h : Inv g σ w) (n : Nat) : Inv g σ { w with drawn := n } where
  lenB := h.lenB
  lenT := h.lenT
  ob i b ob h1 h2 := (h.ob i b ob h1 h2).mono (w' := { w with drawn := n }) (Ext.drew g w n).le rfl
  nodup := h.nodup
  noim := h.noim
  tok k t r h1 h2 := (h.tok k t r h1 h2).mono (w' := { w with drawn := n }) (Ext.drew g w n).le fun _ _ _ => rfl
  tkz := h.tkz
  tkd := h.tkd
  imlt := h.imlt
  gl := GlobOk.le (Ext.drew g w n).le h.gl

theorem Inv.tkn [Globals] {g : Gh} {σ : St} {w : World} (h : Inv g σ w) {k n : Nat} {r : Rec} (h1 : g.tk[k]? = some r) (h2 : σ.T[k]? = some (.len n)) : r.n = n ∧ r.lo = n := h.tok k _ r h1 h2

/-- Slots: what is known of the temporaries. -/
abbrev Slots := List (Nat × AV)

def lk : Slots → Nat → AV
  | [], _ => .undef
  | (t, v) :: s, u => bif Nat.beq t u then v else lk s u

def SRep (g : Gh) (w : World) (s : Slots) (tmps : Array Value) : Prop := ∀ t, Rep g w (lk s t) (tmps.getD t undef)

theorem SRep.mono {g g' : Gh} {w w' : World} (h : Le g w g' w') {s : Slots} {tmps : Array Value} (hs : SRep g w s tmps) : SRep g' w' s tmps := fun t => Rep.mono h _ _ (hs t)

theorem SRep.put {g : Gh} {w : World} {s : Slots} {a : Act} {d : Nat} {v : AV} {u : Value} (hs : SRep g w s a.tmps) (hd : d < a.tmps.size) (hv : Rep g w v u) :
    SRep g w ((d, v) :: s) (a.put (some d) u).tmps := by
  intro t
  unfold lk
  by_cases e : d = t
  · subst e
    simp [Act.put, hd, hv]
  · have hb : Nat.beq d t = false := by
      cases h : Nat.beq d t with
      | false => rfl
      | true => exact absurd (Nat.eq_of_beq_eq_true h) e
    rw [hb]
    simpa [Act.put, Array.getElem?_setIfInBounds, e] using hs t

/-- A constant's cell. -/
def ofCell : Value → AV
  | .bool b => .bool b
  | .int k n => .int k n
  | .string s => .str s.data.toList
  | .pointer none => .nilp
  | .slice none 0 0 => .slice [] .nil
  | .map none => .nilmap
  | .nilFunc => .nilfn
  | .nilIface => .nili
  | _ => .undef

def ofConst : Value → AV
  | .agg cs => bif cs.toList.all (·.oneCell') then .agg (cs.toList.map ofCell) else .undef
  | v => ofCell v

def ev [Globals] (s : Slots) : Operand → AV
  | .tmp t => lk s t
  | .const v => ofConst v
  | .global g => (gget Globals.table g).getD .undef
  | .func f => .fn (.func f) [] []

theorem rep_ofCell (g : Gh) (w : World) (v : Value) : Rep g w (ofCell v) v := by
  cases v with
  | bool b => rfl
  | int k n => rfl
  | string s => show _ = _; cases s; simp
  | pointer a => cases a <;> first | rfl | trivial
  | slice a l c =>
    cases a with
    | some a => trivial
    | none =>
      cases l with
      | succ l => trivial
      | zero =>
        cases c with
        | succ c => trivial
        | zero => exact ⟨none, 0, 0, [], rfl, Nat.le_refl _, by simp [maxLen], ⟨rfl, rfl⟩, rfl, fun _ => ⟨rfl, rfl⟩, fun p hp => by cases hp⟩
  | map r => cases r <;> first | rfl | trivial
  | _ => first | rfl | trivial

theorem repL_ofCell (g : Gh) (w : World) : ∀ vs : List Value, RepL g w (vs.map ofCell) vs
  | [] => rfl
  | v :: vs => ⟨v, vs, rfl, rep_ofCell g w v, repL_ofCell g w vs⟩

theorem rep_ofConst (g : Gh) (w : World) (v : Value) : Rep g w (ofConst v) v := by
  cases v with
  | agg cs =>
    simp only [ofConst]
    cases h : cs.toList.all (·.oneCell') with
    | false => trivial
    | true => exact ⟨cs, rfl, repL_ofCell g w _, List.all_eq_true.1 h⟩
  | bool b => exact rep_ofCell g w (.bool b)
  | int k n => exact rep_ofCell g w (.int k n)
  | string s => exact rep_ofCell g w (.string s)
  | pointer p => exact rep_ofCell g w (.pointer p)
  | slice p l c => exact rep_ofCell g w (.slice p l c)
  | map r => exact rep_ofCell g w (.map r)
  | nilFunc => exact rep_ofCell g w .nilFunc
  | nilIface => exact rep_ofCell g w .nilIface
  | _ => trivial

theorem rep_global [Globals] {g : Gh} {w : World} (hg : GlobOk g.im w) (i : Nat) : Rep g w ((gget Globals.table i).getD .undef) (.pointer (some ⟨i, 0, none⟩)) := by
  cases h : gget Globals.table i with
  | none => trivial
  | some x => obtain ⟨y, rfl, hm⟩ := gget_mem h; exact hg.rep hm

theorem rep_ev [Globals] {g : Gh} {w : World} {s : Slots} {a : Act} (hg : GlobOk g.im w) (hs : SRep g w s a.tmps) (x : Operand) : Rep g w (ev s x) (a.eval x) := by
  cases x with
  | tmp t => exact hs t
  | const v => exact rep_ofConst g w v
  | global i => exact rep_global hg i
  | func f => exact ⟨#[], #[], rfl, rfl, rfl⟩

/-- What one operation does: from abstract state σ with operands as s has them, to σ', leaving v. -/
def Step [Globals] (P : Program) (o : Oper) (s : Slots) (σ σ' : St) (v : AV) : Prop :=
  ∀ (g : Gh) (w : World) (a : Act) (next : Act → World → Prop) (Q : Exit → Act → World → Prop), Inv g σ w → (∀ x, x ∈ o.op.operands.toList → Rep g w (ev s x) (a.eval x)) →
    (∀ u w' g', Ext g w g' w' → Inv g' σ' w' → Rep g' w' v u → next (a.put o.dst u) w') → o.wp P a w next Q

/-- How an operation leans on the state: not at all; it reads objects; it writes objects; it uses tokens; all; it reads one object; it writes one object. -/
inductive Tag where
  | pure | rb | wb | tk | all | rt
  | ri (i : Nat)
  | wi (i : Nat)
  deriving DecidableEq

def TStep [Globals] (t : Tag) (P : Program) (o : Oper) (s : Slots) (σ σ' : St) (v : AV) : Prop :=
  match t with
  | .pure => σ' = σ ∧ ∀ τ, Step P o s τ τ v
  | .rb => σ' = σ ∧ ∀ T, Step P o s ⟨σ.B, T⟩ ⟨σ.B, T⟩ v
  | .wb => σ'.T = σ.T ∧ ∀ T, Step P o s ⟨σ.B, T⟩ ⟨σ'.B, T⟩ v
  | .tk => σ'.B = σ.B ∧ ∀ B, Step P o s ⟨B, σ.T⟩ ⟨B, σ'.T⟩ v
  | .all => Step P o s σ σ' v
  | .rt => σ' = σ ∧ ∀ B, Step P o s ⟨B, σ.T⟩ ⟨B, σ.T⟩ v
  | .ri i => σ' = σ ∧ ∀ (B : List Ob) (T : List Tok), B[i]? = σ.B[i]? → Step P o s ⟨B, T⟩ ⟨B, T⟩ v
  | .wi i => ∃ ob, σ' = ⟨σ.B.set i ob, σ.T⟩ ∧ ∀ (B : List Ob) (T : List Tok), B[i]? = σ.B[i]? → Step P o s ⟨B, T⟩ ⟨B.set i ob, T⟩ v

theorem TStep.step [Globals] {t : Tag} {P : Program} {o : Oper} {s : Slots} {σ σ' : St} {v : AV} (h : TStep t P o s σ σ' v) : Step P o s σ σ' v := by
  cases t with
  | pure => obtain ⟨rfl, h⟩ := h; exact h _
  | rb => obtain ⟨rfl, h⟩ := h; exact h _
  | wb =>
    obtain ⟨e, h⟩ := h
    cases σ; cases σ'
    cases e
    exact h _
  | tk =>
    obtain ⟨e, h⟩ := h
    cases σ; cases σ'
    cases e
    exact h _
  | all => exact h
  | rt => obtain ⟨rfl, h⟩ := h; exact h _
  | ri i => obtain ⟨rfl, h⟩ := h; exact h _ _ rfl
  | wi i => obtain ⟨ob, rfl, h⟩ := h; exact h _ _ rfl
end Go.Av
