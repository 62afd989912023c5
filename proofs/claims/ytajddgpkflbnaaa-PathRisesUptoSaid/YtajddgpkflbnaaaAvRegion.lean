/-
  Regions: one abstract walk in the order of the text serves every order that the region's edges let.
-/
import Derived.Test.YtajddgpkflbnaaaAvInv
namespace Go.Av
open Go
set_option linter.unusedSectionVars false
variable [Globals]

def putS (d : Option Tmp) (v : AV) (s : Slots) : Slots :=
  match d with
  | some d => (d, v) :: s
  | none => s

/-- Is the operation to be carried out? -/
def Wanted (all : Array Oper) (s : Slots) (o : Oper) (b : Bool) : Prop :=
  match o.guard with
  | none => b = true
  | some (j, want) => ∃ d, (all[j]?).bind (·.dst) = some d ∧ ((∃ x, lk s d = .bool x ∧ (x == want) = b) ∨ (lk s d = .tup [] ∧ b = false))

/-- How a piece of code is left. -/
inductive AX where
  | normal | exit (id : Nat) | goto (l : Nat) | ret
  | pan (x : AV)

def Tag.wB : Tag → Bool
  | .wb | .all => true
  | _ => false
def Tag.rB : Tag → Bool
  | .rb | .wb | .all => true
  | .ri _ | .wi _ => true
  | _ => false
def Tag.wT : Tag → Bool
  | .tk | .all => true
  | _ => false
def Tag.rT : Tag → Bool
  | .tk | .all | .rt => true
  | _ => false
/-- One object alone: who writes it, who reads it. -/
def Tag.one : Tag → Tag → Bool
  | .wi i, .wi j => Nat.beq i j
  | .wi i, .ri j => Nat.beq i j
  | .ri i, .wi j => Nat.beq i j
  | .wi _, .rb => true
  | .rb, .wi _ => true
  | _, _ => false
def Tag.clash (a b : Tag) : Bool := (a.wB && b.rB) || (a.rB && b.wB) || ((a.wT && b.rT) || (a.rT && b.wT)) || a.one b

/-- Of each operation the set of those that surely come ahead of it, as a number's bits. -/
def masks : List Oper → List Nat → List Nat
  | [], acc => acc
  | o :: os, acc => masks os (acc ++ [o.after.toList.foldl (fun m e => bif Region.binds .any e then (m ||| 2 ^ e.on) ||| acc.getD e.on 0 else m) 0])

def orderedIn (all : Array Oper) (tags : List Tag) (ms : List Nat) (oj : Oper) (j : Nat) : Nat → List Oper → Bool
  | _, [] => true
  | i, oi :: rest => bif Nat.blt i j then ((oi.apart all oj && !(tags.getD i .all).clash (tags.getD j .all)) || (ms.getD j 0).testBit i) && orderedIn all tags ms oj j (i + 1) rest else true

/-- Each two operations that are not apart stand in the order of the text, by the edges alone. -/
def okFrom (all : Array Oper) (tags : List Tag) (ms : List Nat) : Nat → List Oper → Bool
  | _, [] => true
  | j, o :: rest => o.after.toList.all (fun e => !Region.binds .any e || Nat.blt e.on j) && orderedIn all tags ms o j 0 all.toList && okFrom all tags ms (j + 1) rest

def okOrder (all : Array Oper) (tags : List Tag) : Bool := okFrom all tags (masks all.toList []) 0 all.toList

def PStep (P : Program) (o : Oper) (s : Slots) (σ σ' : St) (x : AV) : Prop :=
  ∀ (g : Gh) (w : World) (a : Act) (next : Act → World → Prop) (Q : Exit → Act → World → Prop), Inv g σ w → (∀ x, x ∈ o.op.operands.toList → Rep g w (ev s x) (a.eval x)) →
    (∀ u w' g', Ext g w g' w' → Inv g' σ' w' → Rep g' w' x u → Q (.panic [{ v := u, recovered := false }]) a w') → o.wp P a w next Q

/-- The abstract walk of a region. -/
def AOps (P : Program) (all : Array Oper) (draw : Bool) (K : AX → Slots → St → Prop) : List Oper → List Tag → Slots → St → Prop
  | [], acc, s, σ => (draw = true → okOrder all acc.reverse = true) ∧ K .normal s σ
  | o :: rest, acc, s, σ =>
    (Wanted all s o true ∧ ∃ t v σ', TStep t P o s σ σ' v ∧ AOps P all draw K rest (t :: acc) (putS o.dst v s) σ') ∨
    (Wanted all s o false ∧ AOps P all draw K rest (.pure :: acc) (putS o.dst (.tup []) s) σ) ∨
    (draw = false ∧ Wanted all s o true ∧ ∃ x σ', PStep P o s σ σ' x ∧ K (.pan x) s σ')

section
variable {P : Program} {all : Array Oper}

theorem wanted_of {s : Slots} {o : Oper} {b : Bool} (h : Wanted all s o b) {g : Gh} {w : World} {tmps : Array Value} (hN : ∀ d, (∃ o' ∈ all.toList, o'.dst = some d) → d < tmps.size)
    (hs : ∀ j want d, o.guard = some (j, want) → (all[j]?).bind (·.dst) = some d → Rep g w (lk s d) (tmps.getD d undef)) :
    Region.wanted o (yielded all tmps) = b := by
  unfold Wanted at h
  unfold Region.wanted
  cases hg : o.guard with
  | none => rw [hg] at h; exact h.symm
  | some p =>
    obtain ⟨j, want⟩ := p
    rw [hg] at h
    obtain ⟨d, h1, h4⟩ := h
    have hr := hs j want d hg h1
    have hlt : d < tmps.size := hN d (by
      cases ho : all[j]? with
      | none => rw [ho] at h1; cases h1
      | some o' => rw [ho] at h1; exact ⟨o', by simpa using Array.mem_of_getElem? ho, h1⟩)
    rcases h4 with ⟨x, h2, h3⟩ | ⟨h2, h3⟩
    · rw [h2] at hr
      have hr' : tmps.getD d undef = .bool x := hr
      have hy : yielded all tmps j = some x := by
        unfold yielded
        rw [h1]
        simp only [Option.bind_some]
        rw [Array.getElem?_eq_getElem hlt]
        have : tmps[d] = .bool x := by simpa [hlt] using hr'
        rw [this]
      simp only [hy]
      simpa using h3
    · rw [h2] at hr
      obtain ⟨vs, hr', hv⟩ := hr
      have hy : yielded all tmps j = none := by
        unfold yielded
        rw [h1]
        simp only [Option.bind_some]
        rw [Array.getElem?_eq_getElem hlt]
        have : tmps[d] = .tuple vs := by simpa [hlt] using hr'
        rw [this]
      simp only [hy, h3]
      rfl

/-- Of the text's own order. -/
theorem aops_seq {Q : Exit → Act → World → Prop} {K : AX → Slots → St → Prop} {N : Nat} {D : List Deferred} {g0 : Gh} {w0 : World}
    (hN : ∀ d, (∃ o' ∈ all.toList, o'.dst = some d) → d < N)
    (hK : ∀ s σ g w (a : Act), a.tmps.size = N → a.defers = D → Ext g0 w0 g w → Inv g σ w → SRep g w s a.tmps → K .normal s σ → Q .normal a w)
    (hP : ∀ x s σ g w (a : Act) u, a.tmps.size = N → a.defers = D → Ext g0 w0 g w → Inv g σ w → SRep g w s a.tmps → K (.pan x) s σ → Rep g w x u → Q (.panic [{ v := u, recovered := false }]) a w) :
    ∀ (l : List Oper) (acc : List Tag) (s : Slots) (σ : St) (g : Gh) (w : World) (a : Act), (∀ o ∈ l, o ∈ all.toList) → a.tmps.size = N → a.defers = D → Ext g0 w0 g w → Inv g σ w → SRep g w s a.tmps →
      AOps P all false K l acc s σ → wpList P all Q l a w
  | [], acc, s, σ, g, w, a, _, ha, hd, he, hi, hs, h => wpList_nil (hK s σ g w a ha hd he hi hs h.2)
  | o :: rest, acc, s, σ, g, w, a, hl, ha, hd, he, hi, hs, h => by
    have hput : ∀ v u w' g', Ext g w g' w' → Rep g' w' v u → SRep g' w' (putS o.dst v s) (a.put o.dst u).tmps ∧ (a.put o.dst u).tmps.size = N ∧ (a.put o.dst u).defers = D := by
      intro v u w' g' hx hv
      have hs' := hs.mono hx.le
      cases hdst : o.dst with
      | none => exact ⟨hs', ha, hd⟩
      | some d =>
        refine ⟨SRep.put hs' (by rw [ha]; exact hN d ⟨o, hl o (by simp), hdst⟩) hv, ?_, hd⟩
        simpa [Act.put] using ha
    have hwant : ∀ b, Wanted all s o b → Region.wanted o (yielded all a.tmps) = b := fun b hb =>
      wanted_of hb (fun d hd => by rw [ha]; exact hN d hd) (fun _ _ d _ _ => hs d)
    unfold wpList
    rcases h with ⟨hw, t, v, σ', hst, hr⟩ | ⟨hw, hr⟩ | ⟨_, hw, x, σ', hst, hr⟩
    · rw [hwant true hw, if_pos rfl]
      refine .inl (hst.step g w a _ Q hi (fun x _ => rep_ev hi.gl hs x) fun u w' g' hx hi' hv => ?_)
      obtain ⟨h1, h2, h3⟩ := hput v u w' g' hx hv
      exact aops_seq hN hK hP rest _ _ σ' g' w' _ (fun o ho => hl o (by simp [ho])) h2 h3 (he.trans hx) hi' h1 hr
    · rw [hwant false hw, if_neg (by simp)]
      obtain ⟨h1, h2, h3⟩ := hput (.tup []) undef w g (Ext.refl g w) ⟨#[], rfl, rfl⟩
      exact aops_seq hN hK hP rest _ _ σ g w _ (fun o ho => hl o (by simp [ho])) h2 h3 he hi h1 hr
    · rw [hwant true hw, if_pos rfl]
      refine .inl (hst g w a _ Q hi (fun x _ => rep_ev hi.gl hs x) fun u w' g' hx hi' hv => ?_)
      exact hP x s σ' g' w' a u ha hd (he.trans hx) hi' (hs.mono hx.le) hr hv
end
end Go.Av
