/-
  Regions: one abstract walk in the order of the text serves every order that the region's edges let.
-/
import Derived.Test.YtmfmdehfbpkgdaaGreatDoorAvInv
namespace Go.Av
open Go
set_option linter.unusedSectionVars false
variable [Globals]
def putS (d : Option Tmp) (v : AV) (s : Slots) : Slots :=
  match d with
  | some d => (d, v) :: s
  | none => s
def Wanted (all : Array Oper) (s : Slots) (o : Oper) (b : Bool) : Prop :=
  match o.guard with
  | none => b = true
  | some (j, want) => ∃ d, (all[j]?).bind (·.dst) = some d ∧ ((∃ x, lk s d = .bool x ∧ (x == want) = b) ∨ (lk s d = .tup [] ∧ b = false))
inductive AX where
  | normal | exit (id : Nat) | goto (l : Nat) | ret
  | pan (x : AV)
def Tag.wB : Tag → Bool
  | .wb | .all => true
  | _ => false
def Tag.rB : Tag → Bool
  | .rb | .wb | .all => true
  | .ri _ | .wi _ => true
  | _ => false
def Tag.wT : Tag → Bool
  | .tk | .all => true
  | _ => false
def Tag.rT : Tag → Bool
  | .tk | .all | .rt => true
  | _ => false
def Tag.one : Tag → Tag → Bool
  | .wi i, .wi j => Nat.beq i j
  | .wi i, .ri j => Nat.beq i j
  | .ri i, .wi j => Nat.beq i j
  | .wi _, .rb => true
  | .rb, .wi _ => true
  | _, _ => false
def Tag.clash (a b : Tag) : Bool := (a.wB && b.rB) || (a.rB && b.wB) || ((a.wT && b.rT) || (a.rT && b.wT)) || a.one b
def masks : List Oper → List Nat → List Nat
  | [], acc => acc
  | o :: os, acc => masks os (acc ++ [o.after.toList.foldl (fun m e => bif Region.binds .any e then (m ||| 2 ^ e.on) ||| acc.getD e.on 0 else m) 0])
def orderedIn (all : Array Oper) (tags : List Tag) (ms : List Nat) (oj : Oper) (j : Nat) : Nat → List Oper → Bool
  | _, [] => true
  | i, oi :: rest => bif Nat.blt i j then ((oi.apart all oj && !(tags.getD i .all).clash (tags.getD j .all)) || (ms.getD j 0).testBit i) && orderedIn all tags ms oj j (i + 1) rest else true
def okFrom (all : Array Oper) (tags : List Tag) (ms : List Nat) : Nat → List Oper → Bool
  | _, [] => true
  | j, o :: rest => o.after.toList.all (fun e => !Region.binds .any e || Nat.blt e.on j) && orderedIn all tags ms o j 0 all.toList && okFrom all tags ms (j + 1) rest
def okOrder (all : Array Oper) (tags : List Tag) : Bool := okFrom all tags (masks all.toList []) 0 all.toList
def PStep (P : Program) (o : Oper) (s : Slots) (σ σ' : St) (x : AV) : Prop :=
  ∀ (g : Gh) (w : World) (a : Act) (next : Act → World → Prop) (Q : Exit → Act → World → Prop), Inv g σ w → (∀ x, x ∈ o.op.operands.toList → Rep g w (ev s x) (a.eval x)) →
    (∀ u w' g', Ext g w g' w' → Inv g' σ' w' → Rep g' w' x u → Q (.panic [{ v := u, recovered := false }]) a w') → o.wp P a w next Q
def AOps (P : Program) (all : Array Oper) (draw : Bool) (K : AX → Slots → St → Prop) : List Oper → List Tag → Slots → St → Prop
  | [], acc, s, σ => (draw = true → okOrder all acc.reverse = true) ∧ K .normal s σ
  | o :: rest, acc, s, σ =>
    (Wanted all s o true ∧ ∃ t v σ', TStep t P o s σ σ' v ∧ AOps P all draw K rest (t :: acc) (putS o.dst v s) σ') ∨
    (Wanted all s o false ∧ AOps P all draw K rest (.pure :: acc) (putS o.dst (.tup []) s) σ) ∨
    (draw = false ∧ Wanted all s o true ∧ ∃ x σ', PStep P o s σ σ' x ∧ K (.pan x) s σ')
section
variable {P : Program} {all : Array Oper}
theorem wanted_of {s : Slots} {o : Oper} {b : Bool} (h : Wanted all s o b) {g : Gh} {w : World} {tmps : Array Value} (hN : ∀ d, (∃ o' ∈ all.toList, o'.dst = some d) → d < tmps.size)
    (hs : ∀ j want d, o.guard = some (j, want) → (all[j]?).bind (·.dst) = some d → Rep g w (lk s d) (tmps.getD d undef)) :
    Region.wanted o (yielded all tmps) = b := by
  unfold Wanted at h
  unfold Region.wanted
  cases hg : o.guard with
  | none => rw [hg] at h; exact h.symm
  | some p =>
    obtain ⟨j, want⟩ := p
    rw [hg] at h
    obtain ⟨d, h1, h4⟩ := h
    have hr := hs j want d hg h1
    have hlt : d < tmps.size := hN d (by
      cases ho : all[j]? with
      | none => rw [ho] at h1; cases h1
      | some o' => rw [ho] at h1; exact ⟨o', by simpa using Array.mem_of_getElem? ho, h1⟩)
    rcases h4 with ⟨x, h2, h3⟩ | ⟨h2, h3⟩
    · rw [h2] at hr
      have hr' : tmps.getD d undef = .bool x := hr
      have hy : yielded all tmps j = some x := by
        unfold yielded
        rw [h1]
        simp only [Option.bind_some]
        rw [Array.getElem?_eq_getElem hlt]
        have : tmps[d] = .bool x := by simpa [hlt] using hr'
        rw [this]
      simp only [hy]
      simpa using h3
    · rw [h2] at hr
      obtain ⟨vs, hr', hv⟩ := hr
      have hy : yielded all tmps j = none := by
        unfold yielded
        rw [h1]
        simp only [Option.bind_some]
        rw [Array.getElem?_eq_getElem hlt]
        have : tmps[d] = .tuple vs := by simpa [hlt] using hr'
        rw [this]
      simp only [hy, h3]
      rfl
theorem aops_seq {Q : Exit → Act → World → Prop} {K : AX → Slots → St → Prop} {N : Nat} {D : List Deferred} {g0 : Gh} {w0 : World}
    (hN : ∀ d, (∃ o' ∈ all.toList, o'.dst = some d) → d < N)
    (hK : ∀ s σ g w (a : Act), a.tmps.size = N → a.defers = D → Ext g0 w0 g w → Inv g σ w → SRep g w s a.tmps → K .normal s σ → Q .normal a w)
    (hP : ∀ x s σ g w (a : Act) u, a.tmps.size = N → a.defers = D → Ext g0 w0 g w → Inv g σ w → SRep g w s a.tmps → K (.pan x) s σ → Rep g w x u → Q (.panic [{ v := u, recovered := false }]) a w) :
    ∀ (l : List Oper) (acc : List Tag) (s : Slots) (σ : St) (g : Gh) (w : World) (a : Act), (∀ o ∈ l, o ∈ all.toList) → a.tmps.size = N → a.defers = D → Ext g0 w0 g w → Inv g σ w → SRep g w s a.tmps →
      AOps P all false K l acc s σ → wpList P all Q l a w
  | [], acc, s, σ, g, w, a, _, ha, hd, he, hi, hs, h => wpList_nil (hK s σ g w a ha hd he hi hs h.2)
  | o :: rest, acc, s, σ, g, w, a, hl, ha, hd, he, hi, hs, h => by
    have hput : ∀ v u w' g', Ext g w g' w' → Rep g' w' v u → SRep g' w' (putS o.dst v s) (a.put o.dst u).tmps ∧ (a.put o.dst u).tmps.size = N ∧ (a.put o.dst u).defers = D := by
      intro v u w' g' hx hv
      have hs' := hs.mono hx.le
      cases hdst : o.dst with
      | none => exact ⟨hs', ha, hd⟩
      | some d =>
        refine ⟨SRep.put hs' (by rw [ha]; exact hN d ⟨o, hl o (by simp), hdst⟩) hv, ?_, hd⟩
        simpa [Act.put] using ha
    have hwant : ∀ b, Wanted all s o b → Region.wanted o (yielded all a.tmps) = b := fun b hb =>
      wanted_of hb (fun d hd => by rw [ha]; exact hN d hd) (fun _ _ d _ _ => hs d)
    unfold wpList
    rcases h with ⟨hw, t, v, σ', hst, hr⟩ | ⟨hw, hr⟩ | ⟨_, hw, x, σ', hst, hr⟩
    · rw [hwant true hw, if_pos rfl]
      refine .inl (hst.step g w a _ Q hi (fun x _ => rep_ev hi.gl hs x) fun u w' g' hx hi' hv => ?_)
      obtain ⟨h1, h2, h3⟩ := hput v u w' g' hx hv
      exact aops_seq hN hK hP rest _ _ σ' g' w' _ (fun o ho => hl o (by simp [ho])) h2 h3 (he.trans hx) hi' h1 hr
    · rw [hwant false hw, if_neg (by simp)]
      obtain ⟨h1, h2, h3⟩ := hput (.tup []) undef w g (Ext.refl g w) ⟨#[], rfl, rfl⟩
      exact aops_seq hN hK hP rest _ _ σ g w _ (fun o ho => hl o (by simp [ho])) h2 h3 he hi h1 hr
    · rw [hwant true hw, if_pos rfl]
      refine .inl (hst g w a _ Q hi (fun x _ => rep_ev hi.gl hs x) fun u w' g' hx hi' hv => ?_)
      exact hP x s σ' g' w' a u ha hd (he.trans hx) hi' (hs.mono hx.le) hr hv
end
end Go.Av
namespace Go.Av
open Go
set_option linter.unusedSectionVars false
variable [Globals]
section
variable {P : Program} {all : Array Oper}
structure Trace (P : Program) (all : Array Oper) (k : Nat) (S : Nat → Slots) (Z : Nat → St) (T : Nat → Tag) (V : Nat → AV) : Prop where
  slots : ∀ (i : Nat) (o : Oper), k ≤ i → all[i]? = some o → S (i + 1) = putS o.dst (V i) (S i)
  step : ∀ (i : Nat) (o : Oper), k ≤ i → all[i]? = some o →
    (Wanted all (S i) o true ∧ TStep (T i) P o (S i) (Z i) (Z (i + 1)) (V i)) ∨ (Wanted all (S i) o false ∧ V i = .tup [] ∧ Z (i + 1) = Z i ∧ T i = .pure)
theorem trace_of {K : AX → Slots → St → Prop} : ∀ (l : List Oper) (k : Nat) (acc : List Tag) (s : Slots) (σ : St), (∀ j, l[j]? = all[k + j]?) → AOps P all true K l acc s σ →
    ∃ (S : Nat → Slots) (Z : Nat → St) (T : Nat → Tag) (V : Nat → AV), Trace P all k S Z T V ∧ S k = s ∧ Z k = σ ∧ K .normal (S (k + l.length)) (Z (k + l.length)) ∧
      okOrder all (acc.reverse ++ (List.range' k l.length).map T) = true
  | [], k, acc, s, σ, hl, h => by
    refine ⟨fun _ => s, fun _ => σ, fun _ => .pure, fun _ => .undef, ⟨fun i o hi ho => ?_, fun i o hi ho => ?_⟩, rfl, rfl, h.2, by simpa using h.1 rfl⟩
    · have := hl (i - k)
      rw [show k + (i - k) = i by omega, ho] at this
      simp at this
    · have := hl (i - k)
      rw [show k + (i - k) = i by omega, ho] at this
      simp at this
  | o :: rest, k, acc, s, σ, hl, h => by
    have hk : all[k]? = some o := by simpa using (hl 0).symm
    have hl' : ∀ j, rest[j]? = all[k + 1 + j]? := fun j => by have := hl (j + 1); simpa [Nat.add_assoc, Nat.add_comm 1 j] using this
    have fin : ∀ (t : Tag) (v : AV) (σ' : St), ((Wanted all s o true ∧ TStep t P o s σ σ' v) ∨ (Wanted all s o false ∧ v = .tup [] ∧ σ' = σ ∧ t = .pure)) →
        AOps P all true K rest (t :: acc) (putS o.dst v s) σ' →
        ∃ (S : Nat → Slots) (Z : Nat → St) (T : Nat → Tag) (V : Nat → AV), Trace P all k S Z T V ∧ S k = s ∧ Z k = σ ∧ K .normal (S (k + (o :: rest).length)) (Z (k + (o :: rest).length)) ∧
          okOrder all (acc.reverse ++ (List.range' k (o :: rest).length).map T) = true := by
      intro t v σ' hst hr
      obtain ⟨S, Z, T, V, ht, hS, hZ, hK, hok⟩ := trace_of rest (k + 1) (t :: acc) _ σ' hl' hr
      refine ⟨fun i => if i = k then s else S i, fun i => if i = k then σ else Z i, fun i => if i = k then t else T i, fun i => if i = k then v else V i, ⟨fun i o' hi ho => ?_, fun i o' hi ho => ?_⟩, by simp, by simp, ?_, ?_⟩
      · by_cases e : i = k
        · subst e
          rw [hk] at ho
          cases ho
          simp [hS]
        · have := ht.slots i o' (by omega) ho
          simp [e, show i + 1 ≠ k by omega, this]
      · by_cases e : i = k
        · subst e
          rw [hk] at ho
          cases ho
          simpa [hZ] using hst
        · have := ht.step i o' (by omega) ho
          simpa [e, show i + 1 ≠ k by omega] using this
      · have e : k + 1 + rest.length = k + (o :: rest).length := by simp; omega
        rw [e] at hK
        simpa [show k + (o :: rest).length ≠ k by simp] using hK
      · rw [show (List.range' k (o :: rest).length).map (fun i => if i = k then t else T i) = t :: (List.range' (k + 1) rest.length).map T from ?_]
        · simpa using hok
        · simp only [List.length_cons, List.range'_succ, List.map_cons, if_true]
          congr 1
          apply List.map_congr_left
          intro i hi
          rw [List.mem_range'] at hi
          obtain ⟨j, hj, rfl⟩ := hi
          simp; omega
    rcases h with ⟨hw, t, v, σ', hst, hr⟩ | ⟨hw, hr⟩ | ⟨hf, _⟩
    · exact fin t v σ' (.inl ⟨hw, hst⟩) hr
    · exact fin .pure (.tup []) σ (.inr ⟨hw, rfl, rfl, rfl⟩) hr
    · cases hf
def Closed (all : Array Oper) (D : Nat → Prop) : Prop := ∀ j o, D j → all[j]? = some o → ∀ e ∈ o.after.toList, Region.binds .any e = true → D e.on
theorem mask_fold (acc : List Nat) (i : Nat) : ∀ (es : List Edge) (m : Nat),
    (es.foldl (fun m e => bif Region.binds .any e then (m ||| 2 ^ e.on) ||| acc.getD e.on 0 else m) m).testBit i = true →
    m.testBit i = true ∨ ∃ e ∈ es, Region.binds .any e = true ∧ (i = e.on ∨ (acc.getD e.on 0).testBit i = true)
  | [], m, h => .inl h
  | e :: es, m, h => by
    rw [List.foldl_cons] at h
    rcases mask_fold acc i es _ h with h | ⟨e', he', h1, h2⟩
    · cases hb : Region.binds .any e with
      | false => rw [hb] at h; exact .inl h
      | true =>
        rw [hb] at h
        simp only [cond_true, Nat.testBit_or, Bool.or_eq_true, Nat.testBit_two_pow, decide_eq_true_eq] at h
        rcases h with (h | h) | h
        · exact .inl h
        · exact .inr ⟨e, by simp, hb, .inl h.symm⟩
        · exact .inr ⟨e, by simp, hb, .inr h⟩
    · exact .inr ⟨e', by simp [he'], h1, h2⟩
theorem masks_spec (D : Nat → Prop) (hD : Closed all D) : ∀ (os : List Oper) (acc : List Nat), (∀ j, os[j]? = all[acc.length + j]?) →
    (∀ (j i : Nat) (o : Oper), j < acc.length → all[j]? = some o → (acc.getD j 0).testBit i = true → (∀ e ∈ o.after.toList, Region.binds .any e = true → D e.on) → D i) →
    ∀ (j i : Nat) (o : Oper), all[j]? = some o → ((masks os acc).getD j 0).testBit i = true → (∀ e ∈ o.after.toList, Region.binds .any e = true → D e.on) → D i
  | [], acc, hos, hacc, j, i, o, hj, hb, he => by
    have hlt : j < acc.length := by
      refine Nat.lt_of_not_le fun hle => ?_
      have := hos (j - acc.length)
      rw [show acc.length + (j - acc.length) = j by omega, hj] at this
      simp at this
    exact hacc j i o hlt hj hb he
  | o' :: os, acc, hos, hacc, j, i, o, hj, hb, he => by
    have h0 : all[acc.length]? = some o' := by simpa using (hos 0).symm
    refine masks_spec D hD os _ (fun j => ?_) (fun j i o hlt hj hb he => ?_) j i o hj hb he
    · have := hos (j + 1)
      simpa [Nat.add_assoc, Nat.add_comm 1 j] using this
    · simp only [List.length_append, List.length_cons, List.length_nil] at hlt
      by_cases e : j < acc.length
      · rw [List.getD_eq_getElem?_getD, List.getElem?_append_left e, ← List.getD_eq_getElem?_getD] at hb
        exact hacc j i o e hj hb he
      · have ej : j = acc.length := by omega
        subst ej
        rw [h0] at hj
        cases hj
        rw [List.getD_eq_getElem?_getD, List.getElem?_append_right (Nat.le_refl _)] at hb
        simp only [Nat.sub_self, List.getElem?_cons_zero, Option.getD_some] at hb
        rcases mask_fold acc i _ 0 hb with hb | ⟨ed, hed, hbi, hi⟩
        · simp at hb
        · have hd := he ed hed hbi
          rcases hi with rfl | hi
          · exact hd
          · have hlt2 : ed.on < acc.length := by
              refine Nat.lt_of_not_le fun hle => ?_
              rw [List.getD_eq_getElem?_getD, List.getElem?_eq_none hle] at hi
              simp at hi
            cases ho2 : all[ed.on]? with
            | none =>
              have : acc.length < all.size := (Array.getElem?_eq_some_iff.1 h0).1
              have : all.size ≤ ed.on := by simpa using ho2
              omega
            | some o2 => exact hacc ed.on i o2 hlt2 ho2 hi (hD ed.on o2 hd ho2)
theorem orderedIn_spec {tags : List Tag} {ms : List Nat} {oj : Oper} {j : Nat} : ∀ (l : List Oper) (k : Nat), orderedIn all tags ms oj j k l = true → ∀ (i : Nat) (oi : Oper), l[i]? = some oi → k + i < j →
    (oi.apart all oj = true ∧ (tags.getD (k + i) .all).clash (tags.getD j .all) = false) ∨ (ms.getD j 0).testBit (k + i) = true
  | [], _, _, i, oi, hi, _ => by simp at hi
  | o :: rest, k, h, i, oi, hi, hlt => by
    unfold orderedIn at h
    have hk : Nat.blt k j = true := by rw [Nat.blt_eq]; omega
    rw [hk] at h
    simp only [cond_true, Bool.and_eq_true] at h
    cases i with
    | zero =>
      simp at hi
      subst hi
      simpa using h.1
    | succ i =>
      have := orderedIn_spec rest (k + 1) h.2 i oi (by simpa using hi) (by omega)
      rwa [show k + 1 + i = k + (i + 1) by omega] at this
theorem okFrom_spec {tags : List Tag} {ms : List Nat} : ∀ (l : List Oper) (k : Nat), okFrom all tags ms k l = true → ∀ (j : Nat) (o : Oper), l[j]? = some o →
    (∀ e ∈ o.after.toList, Region.binds .any e = true → e.on < k + j) ∧ orderedIn all tags ms o (k + j) 0 all.toList = true
  | [], _, _, j, o, hj => by simp at hj
  | o :: rest, k, h, j, oj, hj => by
    unfold okFrom at h
    simp only [Bool.and_eq_true, List.all_eq_true] at h
    cases j with
    | zero =>
      simp at hj
      subst hj
      refine ⟨fun e he hb => ?_, by simpa using h.1.2⟩
      have := h.1.1 e he
      rw [hb] at this
      simpa using this
    | succ j =>
      have := okFrom_spec rest (k + 1) h.2 j oj (by simpa using hj)
      rwa [show k + 1 + j = k + (j + 1) by omega] at this
structure Ordered (all : Array Oper) (T : Nat → Tag) : Prop where
  edge : ∀ (j : Nat) (o : Oper), all[j]? = some o → ∀ e ∈ o.after.toList, Region.binds .any e = true → e.on < j
  pair : ∀ (D : Nat → Prop), Closed all D → ∀ (i j : Nat) (oi oj : Oper), all[i]? = some oi → all[j]? = some oj → i < j → (∀ e ∈ oj.after.toList, Region.binds .any e = true → D e.on) →
    (oi.apart all oj = true ∧ (T i).clash (T j) = false) ∨ D i
theorem ordered_of {T : Nat → Tag} (h : okOrder all ((List.range' 0 all.toList.length).map T) = true) : Ordered all T := by
  unfold okOrder at h
  have hg : ∀ i, i < all.size → ((List.range' 0 all.toList.length).map T).getD i .all = T i := by
    intro i hi
    simp [List.getD, hi]
  refine ⟨fun j o hj => ?_, fun D hD i j oi oj hi hj hlt he => ?_⟩
  · have := (okFrom_spec _ 0 h j o (by simpa using hj)).1
    simpa using this
  · have hoj := (okFrom_spec _ 0 h j oj (by simpa using hj)).2
    rw [Nat.zero_add] at hoj
    have hjs := (Array.getElem?_eq_some_iff.1 hj).1
    have := orderedIn_spec _ 0 hoj i oi (by simpa using hi) (by omega)
    rw [Nat.zero_add, hg i (by omega), hg j hjs] at this
    rcases this with h1 | h1
    · exact .inl h1
    · exact .inr (masks_spec D hD all.toList [] (by simp) (fun j i o hj => by simp at hj) j i oj hj h1 he)
noncomputable def valAt (all : Array Oper) (s0 : Slots) (V : Nat → AV) (D : Nat → Bool) : Nat → Nat → AV
  | 0, t => lk s0 t
  | k + 1, t => if D k = true ∧ ((all[k]?).bind (·.dst)) = some t then V k else valAt all s0 V D k t
def Tag.wOne : Tag → Option Nat
  | .wi i => some i
  | _ => none
def Tag.anyW (t : Tag) : Bool := t.wB || t.wOne.isSome
def updO (l : List Ob) (i : Nat) : Option Ob → List Ob
  | some ob => l.set i ob
  | none => l
def bAt (Z : Nat → St) (T : Nat → Tag) (D : Nat → Bool) : Nat → List Ob
  | 0 => (Z 0).B
  | k + 1 => if D k = true then
      (if (T k).wB = true then (Z (k + 1)).B else match (T k).wOne with
        | some i => updO (bAt Z T D k) i (Z (k + 1)).B[i]?
        | none => bAt Z T D k)
    else bAt Z T D k
def tAt (Z : Nat → St) (T : Nat → Tag) (D : Nat → Bool) : Nat → List Tok
  | 0 => (Z 0).T
  | k + 1 => if D k = true ∧ (T k).wT = true then (Z (k + 1)).T else tAt Z T D k
theorem lk_putS (d : Option Tmp) (v : AV) (s : Slots) (t : Nat) : lk (putS d v s) t = if d = some t then v else lk s t := by
  cases d with
  | none => simp [putS]
  | some d =>
    simp only [putS, lk]
    by_cases e : d = t
    · subst e; simp
    · have : Nat.beq d t = false := by
        cases h : Nat.beq d t with
        | false => rfl
        | true => exact absurd (Nat.eq_of_beq_eq_true h) e
      simp [this, e]
theorem TStep.sameB {t : Tag} {o : Oper} {s : Slots} {σ σ' : St} {v : AV} (h : TStep t P o s σ σ' v) (ht : t.anyW = false) : σ'.B = σ.B := by
  cases t with
  | pure => exact congrArg St.B h.1
  | rb => exact congrArg St.B h.1
  | wb => cases ht
  | tk => exact h.1
  | all => cases ht
  | rt => exact congrArg St.B h.1
  | ri i => exact congrArg St.B h.1
  | wi i => cases ht
theorem TStep.oneB {i : Nat} {o : Oper} {s : Slots} {σ σ' : St} {v : AV} (h : TStep (.wi i) P o s σ σ' v) : ∃ ob, σ'.B = σ.B.set i ob := by
  obtain ⟨ob, h1, _⟩ := h
  exact ⟨ob, by rw [h1]⟩
theorem TStep.sameT {t : Tag} {o : Oper} {s : Slots} {σ σ' : St} {v : AV} (h : TStep t P o s σ σ' v) (ht : t.wT = false) : σ'.T = σ.T := by
  cases t with
  | pure => exact congrArg St.T h.1
  | rb => exact congrArg St.T h.1
  | wb => exact h.1
  | tk => cases ht
  | all => cases ht
  | rt => exact congrArg St.T h.1
  | ri i => exact congrArg St.T h.1
  | wi i => obtain ⟨ob, rfl, _⟩ := h; rfl
section run
variable {S : Nat → Slots} {Z : Nat → St} {T : Nat → Tag} {V : Nat → AV} (ht : Trace P all 0 S Z T V) (hor : Ordered all T)
theorem Trace.sameB (ht : Trace P all 0 S Z T V) {i : Nat} {o : Oper} (ho : all[i]? = some o) (h : (T i).anyW = false) : (Z (i + 1)).B = (Z i).B := by
  rcases ht.step i o (Nat.zero_le _) ho with ⟨_, hs⟩ | ⟨_, _, hz, _⟩
  · exact hs.sameB h
  · rw [hz]
theorem Trace.oneB (ht : Trace P all 0 S Z T V) {k i : Nat} {o : Oper} (ho : all[k]? = some o) (h : T k = .wi i) : ∃ ob, (Z (k + 1)).B = (Z k).B.set i ob := by
  rcases ht.step k o (Nat.zero_le _) ho with ⟨_, hs⟩ | ⟨_, _, hz, hp⟩
  · rw [h] at hs; exact hs.oneB
  · rw [h] at hp; cases hp
theorem wOne_eq {t : Tag} {i : Nat} (h : t.wOne = some i) : t = .wi i := by cases t <;> cases h; rfl
theorem updO_set {l m : List Ob} {i : Nat} {ob : Ob} (h : m[i]? = l[i]?) : updO m i (l.set i ob)[i]? = m.set i ob := by
  by_cases e : i < l.length
  · rw [List.getElem?_set_self e]; rfl
  · have hm : ¬ i < m.length := fun hlt => by
      rw [List.getElem?_eq_getElem hlt, List.getElem?_eq_none (by omega)] at h
      cases h
    rw [List.getElem?_eq_none (by simp; omega), List.set_eq_of_length_le (by omega)]
    rfl
def Tag.offB (t : Tag) (i : Nat) : Bool := !t.wB && (match t.wOne with | some j => !Nat.beq j i | none => true)
theorem Trace.keepB (ht : Trace P all 0 S Z T V) {k i : Nat} {o : Oper} (ho : all[k]? = some o) (h : (T k).offB i = true) : (Z (k + 1)).B[i]? = (Z k).B[i]? := by
  unfold Tag.offB at h
  simp only [Bool.and_eq_true, Bool.not_eq_true'] at h
  cases hw : (T k).wOne with
  | none =>
    rw [ht.sameB ho (by unfold Tag.anyW; rw [h.1, hw]; rfl)]
  | some j =>
    obtain ⟨ob, e⟩ := ht.oneB ho (wOne_eq hw)
    have h2 := h.2
    rw [hw] at h2
    have hne : j ≠ i := fun e => by subst e; simp at h2
    rw [e, List.getElem?_set_ne hne]
theorem Trace.sameT (ht : Trace P all 0 S Z T V) {i : Nat} {o : Oper} (ho : all[i]? = some o) (h : (T i).wT = false) : (Z (i + 1)).T = (Z i).T := by
  rcases ht.step i o (Nat.zero_le _) ho with ⟨_, hs⟩ | ⟨_, _, hz, _⟩
  · exact hs.sameT h
  · rw [hz]
theorem val_upto (ht : Trace P all 0 S Z T V) {D : Nat → Bool} {t : Nat} : ∀ k, k ≤ all.size → (∀ (i : Nat) (o : Oper), i < k → all[i]? = some o → o.dst = some t → D i = true) → valAt all (S 0) V D k t = lk (S k) t
  | 0, _, _ => rfl
  | k + 1, hk, h => by
    have hlt : k < all.size := hk
    have ho := Array.getElem?_eq_getElem hlt
    rw [ht.slots k _ (Nat.zero_le _) ho, lk_putS, valAt, ho]
    by_cases e : all[k].dst = some t
    · rw [if_pos ⟨h k _ (Nat.lt_succ_self k) ho e, e⟩, if_pos e]
    · rw [if_neg (by simp [e]), if_neg e]
      exact val_upto ht k (by omega) fun i o hi => h i o (by omega)
theorem b_upto (ht : Trace P all 0 S Z T V) {D : Nat → Bool} : ∀ k, k ≤ all.size → (∀ i, i < k → (T i).anyW = true → D i = true) → bAt Z T D k = (Z k).B
  | 0, _, _ => rfl
  | k + 1, hk, h => by
    have ho := Array.getElem?_eq_getElem (show k < all.size from hk)
    have ih := b_upto ht (D := D) k (by omega) fun i hi => h i (by omega)
    rw [bAt]
    cases e : (T k).anyW with
    | true =>
      rw [if_pos (h k (Nat.lt_succ_self k) e)]
      cases ew : (T k).wB with
      | true => rw [if_pos rfl]
      | false =>
        rw [if_neg (by simp)]
        cases eo : (T k).wOne with
        | none => unfold Tag.anyW at e; rw [ew, eo] at e; cases e
        | some i =>
          obtain ⟨ob, hob⟩ := ht.oneB ho (wOne_eq eo)
          simp only [ih]
          rw [hob]
          exact updO_set rfl
    | false =>
      have e' := e
      unfold Tag.anyW at e'
      simp only [Bool.or_eq_false_iff] at e'
      have eo : (T k).wOne = none := by cases hh : (T k).wOne with | none => rfl | some _ => rw [hh] at e'; simp at e'
      rw [e'.1, eo, ih, ht.sameB ho e]
      simp
theorem g_upto (ht : Trace P all 0 S Z T V) {D : Nat → Bool} {i : Nat} : ∀ k, k ≤ all.size → (∀ m, m < k → (T m).offB i = false → D m = true) → (bAt Z T D k)[i]? = (Z k).B[i]?
  | 0, _, _ => rfl
  | k + 1, hk, h => by
    have ho := Array.getElem?_eq_getElem (show k < all.size from hk)
    have ih := g_upto ht (D := D) (i := i) k (by omega) fun m hm => h m (by omega)
    rw [bAt]
    cases e : (T k).offB i with
    | false =>
      rw [if_pos (h k (Nat.lt_succ_self k) e)]
      cases ew : (T k).wB with
      | true => rw [if_pos rfl]
      | false =>
        rw [if_neg (by simp)]
        cases eo : (T k).wOne with
        | none => unfold Tag.offB at e; rw [ew, eo] at e; cases e
        | some j =>
          obtain ⟨ob, hob⟩ := ht.oneB ho (wOne_eq eo)
          have hji : j = i := by
            unfold Tag.offB at e
            rw [ew, eo] at e
            simpa using e
          subst hji
          simp only
          rw [hob, updO_set ih]
          by_cases hl : j < (Z k).B.length
          · have hm : j < (bAt Z T D k).length := by
              rw [List.getElem?_eq_getElem hl] at ih
              exact (List.getElem?_eq_some_iff.1 ih).1
            rw [List.getElem?_set_self hl, List.getElem?_set_self hm]
          · have hm : ¬ j < (bAt Z T D k).length := fun hlt => by
              rw [List.getElem?_eq_getElem hlt, List.getElem?_eq_none (by omega)] at ih
              cases ih
            rw [List.getElem?_eq_none (by simp; omega), List.getElem?_eq_none (by simp; omega)]
    | true =>
      rw [ht.keepB ho e]
      have e' := e
      unfold Tag.offB at e'
      simp only [Bool.and_eq_true, Bool.not_eq_true'] at e'
      split
      · rw [e'.1, if_neg (by simp)]
        cases eo : (T k).wOne with
        | none => exact ih
        | some j =>
          have h2 := e'.2
          rw [eo] at h2
          have hne : j ≠ i := fun e => by subst e; simp at h2
          simp only
          cases (Z (k + 1)).B[j]? with
          | none => exact ih
          | some ob => show ((bAt Z T D k).set j ob)[i]? = _; rw [List.getElem?_set_ne hne]; exact ih
      · exact ih
theorem t_upto (ht : Trace P all 0 S Z T V) {D : Nat → Bool} : ∀ k, k ≤ all.size → (∀ i, i < k → (T i).wT = true → D i = true) → tAt Z T D k = (Z k).T
  | 0, _, _ => rfl
  | k + 1, hk, h => by
    have ho := Array.getElem?_eq_getElem (show k < all.size from hk)
    rw [tAt]
    cases e : (T k).wT with
    | true => rw [if_pos ⟨h k (Nat.lt_succ_self k) e, rfl⟩]
    | false => rw [if_neg (by simp), t_upto ht k (by omega) fun i hi => h i (by omega), ht.sameT ho e]
theorem val_from {D : Nat → Bool} {t j : Nat} : ∀ k, (∀ (i : Nat) (o : Oper), j ≤ i → i < j + k → all[i]? = some o → o.dst = some t → D i = false) → valAt all (S 0) V D (j + k) t = valAt all (S 0) V D j t
  | 0, _ => rfl
  | k + 1, h => by
    rw [show j + (k + 1) = (j + k) + 1 by omega, valAt, if_neg, val_from k fun i o h1 h2 => h i o h1 (by omega)]
    rintro ⟨h1, h2⟩
    cases ho : all[j + k]? with
    | none => rw [ho] at h2; cases h2
    | some o =>
      rw [ho] at h2
      rw [h (j + k) o (by omega) (by omega) ho h2] at h1
      cases h1
theorem b_from {D : Nat → Bool} {j : Nat} : ∀ k, (∀ i, j ≤ i → i < j + k → (T i).anyW = true → D i = false) → bAt Z T D (j + k) = bAt Z T D j
  | 0, _ => rfl
  | k + 1, h => by
    have ih := b_from (D := D) (j := j) k fun i h1 h2 => h i h1 (by omega)
    rw [show j + (k + 1) = (j + k) + 1 by omega, bAt]
    split
    · rename_i hd
      have e : (T (j + k)).anyW = false := by
        cases e : (T (j + k)).anyW with
        | false => rfl
        | true => rw [h (j + k) (by omega) (by omega) e] at hd; cases hd
      unfold Tag.anyW at e
      simp only [Bool.or_eq_false_iff] at e
      have eo : (T (j + k)).wOne = none := by cases hh : (T (j + k)).wOne with | none => rfl | some _ => rw [hh] at e; simp at e
      rw [e.1, eo]
      simpa using ih
    · exact ih
theorem g_from {D : Nat → Bool} {i j : Nat} : ∀ k, (∀ m, j ≤ m → m < j + k → (T m).offB i = false → D m = false) → (bAt Z T D (j + k))[i]? = (bAt Z T D j)[i]?
  | 0, _ => rfl
  | k + 1, h => by
    have ih := g_from (D := D) (i := i) (j := j) k fun m h1 h2 => h m h1 (by omega)
    rw [show j + (k + 1) = (j + k) + 1 by omega, bAt]
    split
    · rename_i hd
      have e : (T (j + k)).offB i = true := by
        cases e : (T (j + k)).offB i with
        | true => rfl
        | false => rw [h (j + k) (by omega) (by omega) e] at hd; cases hd
      unfold Tag.offB at e
      simp only [Bool.and_eq_true, Bool.not_eq_true'] at e
      rw [e.1, if_neg (by simp)]
      cases eo : (T (j + k)).wOne with
      | none => exact ih
      | some m =>
        have h2 := e.2
        rw [eo] at h2
        have hne : m ≠ i := fun e => by subst e; simp at h2
        simp only
        cases (Z (j + k + 1)).B[m]? with
        | none => exact ih
        | some ob => show ((bAt Z T D (j + k)).set m ob)[i]? = _; rw [List.getElem?_set_ne hne]; exact ih
    · exact ih
theorem t_from {D : Nat → Bool} {j : Nat} : ∀ k, (∀ i, j ≤ i → i < j + k → (T i).wT = true → D i = false) → tAt Z T D (j + k) = tAt Z T D j
  | 0, _ => rfl
  | k + 1, h => by
    rw [show j + (k + 1) = (j + k) + 1 by omega, tAt, if_neg, t_from k fun i h1 h2 => h i h1 (by omega)]
    rintro ⟨h1, h2⟩
    rw [h (j + k) (by omega) (by omega) h2] at h1
    cases h1
def addTo (D : Nat → Bool) (j : Nat) : Nat → Bool := fun i => if i = j then true else D i
theorem val_same {D D' : Nat → Bool} {t : Nat} : ∀ k, (∀ (i : Nat) (o : Oper), i < k → all[i]? = some o → o.dst = some t → D' i = D i) → valAt all (S 0) V D' k t = valAt all (S 0) V D k t
  | 0, _ => rfl
  | k + 1, h => by
    rw [valAt, valAt, val_same k fun i o hi => h i o (by omega)]
    cases ho : all[k]? with
    | none => simp
    | some o =>
      by_cases e : o.dst = some t
      · rw [h k o (Nat.lt_succ_self k) ho e]
      · simp [e]
theorem b_same {D D' : Nat → Bool} : ∀ k, (∀ i, i < k → (T i).anyW = true → D' i = D i) → bAt Z T D' k = bAt Z T D k
  | 0, _ => rfl
  | k + 1, h => by
    rw [bAt, bAt, b_same k fun i hi => h i (by omega)]
    cases e : (T k).anyW with
    | true => rw [h k (Nat.lt_succ_self k) e]
    | false =>
      unfold Tag.anyW at e
      simp only [Bool.or_eq_false_iff] at e
      have eo : (T k).wOne = none := by cases hh : (T k).wOne with | none => rfl | some _ => rw [hh] at e; simp at e
      rw [e.1, eo]
      simp
theorem b_add {D D' : Nat → Bool} {i j : Nat} {ob : Ob} (hb : bAt Z T D' (j + 1) = (bAt Z T D (j + 1)).set i ob) (hD : ∀ m, j < m → D' m = D m) : ∀ k, (∀ m, j < m → m < j + 1 + k → (T m).offB i = false → D m = false) → bAt Z T D' (j + 1 + k) = (bAt Z T D (j + 1 + k)).set i ob
  | 0, _ => hb
  | k + 1, h => by
    have ih := b_add hb hD k fun m h1 h2 => h m h1 (by omega)
    rw [show j + 1 + (k + 1) = (j + 1 + k) + 1 by omega, bAt, bAt, hD _ (by omega)]
    split
    · rename_i hd
      have e : (T (j + 1 + k)).offB i = true := by
        cases e : (T (j + 1 + k)).offB i with
        | true => rfl
        | false => rw [h (j + 1 + k) (by omega) (by omega) e] at hd; cases hd
      unfold Tag.offB at e
      simp only [Bool.and_eq_true, Bool.not_eq_true'] at e
      rw [e.1, if_neg (by simp), if_neg (by simp)]
      cases eo : (T (j + 1 + k)).wOne with
      | none => exact ih
      | some m =>
        have h2 := e.2
        rw [eo] at h2
        have hne : m ≠ i := fun e => by subst e; simp at h2
        simp only
        rw [ih]
        cases (Z (j + 1 + k + 1)).B[m]? with
        | none => rfl
        | some ob2 => exact List.set_comm _ _ (Ne.symm hne)
    · exact ih
theorem t_same {D D' : Nat → Bool} : ∀ k, (∀ i, i < k → (T i).wT = true → D' i = D i) → tAt Z T D' k = tAt Z T D k
  | 0, _ => rfl
  | k + 1, h => by
    rw [tAt, tAt, t_same k fun i hi => h i (by omega)]
    cases e : (T k).wT with
    | true => rw [h k (Nat.lt_succ_self k) e]
    | false => simp
theorem one_comm (a b : Tag) : a.one b = b.one a := by
  have hb : ∀ i j : Nat, Nat.beq i j = Nat.beq j i := fun i j => by
    cases h : Nat.beq i j with
    | true => rw [Nat.eq_of_beq_eq_true h]; exact (Nat.beq_refl j).symm
    | false =>
      cases h2 : Nat.beq j i with
      | false => rfl
      | true => rw [Nat.eq_of_beq_eq_true h2, Nat.beq_refl] at h; cases h
  cases a <;> cases b <;> first | rfl | exact hb _ _
theorem clash_comm (a b : Tag) : a.clash b = b.clash a := by
  unfold Tag.clash
  rw [one_comm a b]
  cases a <;> cases b <;> rfl
theorem clash_anyW {a b : Tag} (h1 : a.anyW = true) (h3 : b = .rb ∨ b.wB = true) : a.clash b = true := by
  rcases h3 with rfl | h3
  · cases a <;> first | rfl | cases h1
  · cases b <;> first | (cases h3; done) | skip
    all_goals (cases a <;> first | rfl | cases h1)
theorem clash_off {a b : Tag} {i : Nat} (h1 : a.offB i = false) (h2 : b = .ri i ∨ b = .wi i) : a.clash b = true := by
  rcases h2 with rfl | rfl <;> cases a <;> first | rfl | (cases h1; done) | skip
  all_goals (rename_i j; simp only [Tag.offB, Tag.wB, Tag.wOne, Bool.not_false, Bool.true_and, Bool.not_eq_false'] at h1; show Nat.beq j i = true; exact h1)
theorem side (hor : Ordered all T) {D : Nat → Bool} (hD : Closed all (D · = true)) {j : Nat} {oj : Oper} (hj : all[j]? = some oj) (hn : D j = false) (hr : ∀ e ∈ oj.after.toList, Region.binds .any e = true → D e.on = true)
    {i : Nat} {oi : Oper} (hi : all[i]? = some oi) (hc : oi.apart all oj = false ∨ oj.apart all oi = false ∨ (T i).clash (T j) = true) : (i < j → D i = true) ∧ (j < i → D i = false) := by
  have sym : ∀ x y : Oper, x.apart all y = true → y.apart all x = true := by
    intro x y h
    obtain ⟨h1, h2, h3⟩ := Oper.apart_spec h
    unfold Oper.apart
    cases hx : x.dst with
    | none =>
      cases hy : y.dst with
      | none => rfl
      | some d => simpa using h3 d hy
    | some c =>
      cases hy : y.dst with
      | none => simpa using h1 c hx
      | some d =>
        have a1 := h1 c hx
        have a2 := h2 c hx
        have a3 := h3 d hy
        rw [hy] at a2
        have : c ≠ d := fun e => a2 (by rw [e])
        simp [a1, a3, this]
  refine ⟨fun hlt => ?_, fun hlt => ?_⟩
  · rcases hor.pair _ hD i j oi oj hi hj hlt hr with ⟨h1, h2⟩ | h1
    · rcases hc with h | h | h
      · rw [h1] at h; cases h
      · rw [sym _ _ h1] at h; cases h
      · rw [h2] at h; cases h
    · exact h1
  · cases hDi : D i with
    | false => rfl
    | true =>
      rcases hor.pair _ hD j i oj oi hj hi hlt (fun e he hb => hD i oi hDi hi e he hb) with ⟨h1, h2⟩ | h1
      · rcases hc with h | h | h
        · rw [sym _ _ h1] at h; cases h
        · rw [h1] at h; cases h
        · rw [clash_comm, h2] at h; cases h
      · rw [hn] at h1; cases h1
structure Mid (ht : Trace P all 0 S Z T V) (N : Nat) (D : List Deferred) (g0 : Gh) (w0 : World) (L : Nat → Bool) (g : Gh) (w : World) (a : Act) : Prop where
  closed : Closed all (L · = true)
  size : a.tmps.size = N
  defers : a.defers = D
  ext : Ext g0 w0 g w
  inv : Inv g ⟨bAt Z T L all.size, tAt Z T L all.size⟩ w
  slots : ∀ t, Rep g w (valAt all (S 0) V L all.size t) (a.tmps.getD t undef)
theorem looks_operand {o : Oper} {t : Nat} (h : Operand.tmp t ∈ o.op.operands.toList) : t ∈ o.looksAt all := by
  unfold Oper.looksAt
  refine List.mem_append.2 (.inl (List.mem_filterMap.2 ⟨_, h, rfl⟩))
theorem looks_guard {o : Oper} {j : Nat} {want : Bool} {d : Nat} (hg : o.guard = some (j, want)) (hd : (all[j]?).bind (·.dst) = some d) : d ∈ o.looksAt all := by
  unfold Oper.looksAt
  rw [hg]
  refine List.mem_append.2 (.inr ?_)
  simp [hd]
theorem apart_of_looks {oi oj : Oper} {t : Nat} (hi : oi.dst = some t) (hj : t ∈ oj.looksAt all) : oi.apart all oj = false := by
  cases h : oi.apart all oj with
  | false => rfl
  | true => exact absurd hj ((Oper.apart_spec h).1 t hi)
theorem apart_of_dst {oi oj : Oper} {t : Nat} (hi : oi.dst = some t) (hj : oj.dst = some t) : oi.apart all oj = false := by
  cases h : oi.apart all oj with
  | false => rfl
  | true => exact absurd hj ((Oper.apart_spec h).2.1 t hi)
theorem mid_step {ht : Trace P all 0 S Z T V} (hor : Ordered all T) {N : Nat} {D : List Deferred} {g0 : Gh} {w0 : World} (hN : ∀ d, (∃ o' ∈ all.toList, o'.dst = some d) → d < N)
    {L : Nat → Bool} {g : Gh} {w : World} {a : Act} (hm : Mid ht N D g0 w0 L g w a) {j : Nat} {oj : Oper} (hj : all[j]? = some oj) (hn : L j = false)
    (hr : ∀ e ∈ oj.after.toList, Region.binds .any e = true → L e.on = true) {Q : Exit → Act → World → Prop} {K : Act → World → Prop}
    (hK : ∀ a' w' g', Mid ht N D g0 w0 (addTo L j) g' w' a' → K a' w') : wpOp P all Q j K a w := by
  have hjs : j < all.size := (Array.getElem?_eq_some_iff.1 hj).1
  have hsplit : j + (all.size - j) = all.size := by omega
  have valj : ∀ t, t ∈ oj.looksAt all → valAt all (S 0) V L all.size t = lk (S j) t := by
    intro t htm
    rw [← hsplit, val_from (all.size - j), val_upto ht j (by omega)]
    · intro i o hi ho hd
      exact (side hor hm.closed hj hn hr ho (.inl (apart_of_looks hd htm))).1 hi
    · intro i o h1 h2 ho hd
      by_cases e : i = j
      · subst e; exact hn
      · exact (side hor hm.closed hj hn hr ho (.inl (apart_of_looks hd htm))).2 (by omega)
  have rT_of : (T j).wT = true → (T j).rT = true := by cases T j <;> intro h <;> first | rfl | cases h
  have clashT : ∀ i, (T i).wT = true → (T j).rT = true → (T i).clash (T j) = true := by
    intro i h1 h2; unfold Tag.clash; rw [h1, h2]; simp
  have bj : (T j = .rb ∨ (T j).wB = true) → bAt Z T L all.size = (Z j).B := by
    intro hb
    rw [← hsplit, b_from (all.size - j), b_upto ht j (by omega)]
    · intro i hi hw
      exact (side hor hm.closed hj hn hr (Array.getElem?_eq_getElem (show i < all.size by omega)) (.inr (.inr (clash_anyW hw hb)))).1 hi
    · intro i h1 h2 hw
      by_cases e : i = j
      · subst e; exact hn
      · exact (side hor hm.closed hj hn hr (Array.getElem?_eq_getElem (show i < all.size by omega)) (.inr (.inr (clash_anyW hw hb)))).2 (by omega)
  have bi : ∀ i, (T j = .ri i ∨ T j = .wi i) → (bAt Z T L all.size)[i]? = (Z j).B[i]? := by
    intro i hb
    rw [← hsplit, g_from (all.size - j), g_upto ht j (by omega)]
    · intro m hi hw
      exact (side hor hm.closed hj hn hr (Array.getElem?_eq_getElem (show m < all.size by omega)) (.inr (.inr (clash_off hw hb)))).1 hi
    · intro m h1 h2 hw
      by_cases e : m = j
      · subst e; exact hn
      · exact (side hor hm.closed hj hn hr (Array.getElem?_eq_getElem (show m < all.size by omega)) (.inr (.inr (clash_off hw hb)))).2 (by omega)
  have tj : (T j).rT = true → tAt Z T L all.size = (Z j).T := by
    intro hb
    rw [← hsplit, t_from (all.size - j), t_upto ht j (by omega)]
    · intro i hi hw
      exact (side hor hm.closed hj hn hr (Array.getElem?_eq_getElem (show i < all.size by omega)) (.inr (.inr (clashT i hw hb)))).1 hi
    · intro i h1 h2 hw
      by_cases e : i = j
      · subst e; exact hn
      · exact (side hor hm.closed hj hn hr (Array.getElem?_eq_getElem (show i < all.size by omega)) (.inr (.inr (clashT i hw hb)))).2 (by omega)
  have bnewW : (T j).wB = true → bAt Z T (addTo L j) all.size = (Z (j + 1)).B := by
    intro hw
    rw [show all.size = (j + 1) + (all.size - (j + 1)) by omega, b_from (all.size - (j + 1)), bAt, if_pos (by simp [addTo]), if_pos hw]
    intro i h1 h2 hwi
    have := (side hor hm.closed hj hn hr (Array.getElem?_eq_getElem (show i < all.size by omega)) (.inr (.inr (clash_anyW hwi (.inr hw))))).2 (by omega)
    simp [addTo, show i ≠ j by omega, this]
  have bnewN : (T j).anyW = false → bAt Z T (addTo L j) all.size = bAt Z T L all.size := by
    intro hw
    refine b_same _ fun i _ hwi => ?_
    have : i ≠ j := fun e => by rw [e, hw] at hwi; cases hwi
    simp [addTo, this]
  have bnewO : ∀ (i : Nat) (ob : Ob), T j = .wi i → (Z (j + 1)).B = (Z j).B.set i ob → bAt Z T (addTo L j) all.size = (bAt Z T L all.size).set i ob := by
    intro i ob hw hz
    have hbj : (bAt Z T L j)[i]? = (Z j).B[i]? := g_upto ht j (by omega) fun m hi hof =>
      (side hor hm.closed hj hn hr (Array.getElem?_eq_getElem (show m < all.size by omega)) (.inr (.inr (clash_off hof (.inr hw))))).1 hi
    have h0 : bAt Z T (addTo L j) (j + 1) = (bAt Z T L (j + 1)).set i ob := by
      rw [bAt, bAt, if_pos (by simp [addTo]), hw, hn, if_neg (by simp [Tag.wB]), if_neg (by simp)]
      simp only [Tag.wOne]
      rw [b_same (D := L) (D' := addTo L j) j fun m hm' _ => by simp [addTo, show m ≠ j by omega], hz]
      exact updO_set hbj
    rw [show all.size = (j + 1) + (all.size - (j + 1)) by omega]
    refine b_add h0 (fun m hm' => by simp [addTo, show m ≠ j by omega]) _ fun m h1 h2 hof => ?_
    exact (side hor hm.closed hj hn hr (Array.getElem?_eq_getElem (show m < all.size by omega)) (.inr (.inr (clash_off hof (.inr hw))))).2 (by omega)
  have tnew : tAt Z T (addTo L j) all.size = if (T j).wT = true then (Z (j + 1)).T else tAt Z T L all.size := by
    split
    · rename_i hw
      rw [show all.size = (j + 1) + (all.size - (j + 1)) by omega, t_from (all.size - (j + 1)), tAt, if_pos ⟨by simp [addTo], hw⟩]
      intro i h1 h2 hwi
      have := (side hor hm.closed hj hn hr (Array.getElem?_eq_getElem (show i < all.size by omega)) (.inr (.inr (clashT i hwi (rT_of hw))))).2 (by omega)
      simp [addTo, show i ≠ j by omega, this]
    · rename_i hw
      refine t_same _ fun i _ hwi => ?_
      have : i ≠ j := fun e => hw (e ▸ hwi)
      simp [addTo, this]
  have vnew : ∀ t, valAt all (S 0) V (addTo L j) all.size t = if oj.dst = some t then V j else valAt all (S 0) V L all.size t := by
    intro t
    split
    · rename_i hd
      rw [show all.size = (j + 1) + (all.size - (j + 1)) by omega, val_from (all.size - (j + 1)), valAt, hj, if_pos ⟨by simp [addTo], hd⟩]
      intro i o h1 h2 ho hdi
      have := (side hor hm.closed hj hn hr ho (.inl (apart_of_dst hdi hd))).2 (by omega)
      simp [addTo, show i ≠ j by omega, this]
    · rename_i hd
      refine val_same _ fun i o _ ho hdi => ?_
      have : i ≠ j := fun e => by subst e; rw [hj] at ho; cases ho; exact hd hdi
      simp [addTo, this]
  have cnew : Closed all (addTo L j · = true) := by
    intro i o hi ho e he hb
    have hle : L e.on = true → addTo L j e.on = true := by intro h; unfold addTo; split <;> simp_all
    by_cases e' : i = j
    · subst e'; rw [hj] at ho; cases ho; exact hle (hr e he hb)
    · have : L i = true := by simpa [addTo, e'] using hi
      exact hle (hm.closed i o this ho e he hb)
  have fin : ∀ (u : Value) (w' : World) (g' : Gh), Ext g w g' w' → Inv g' ⟨bAt Z T (addTo L j) all.size, tAt Z T (addTo L j) all.size⟩ w' → Rep g' w' (V j) u → K (a.put oj.dst u) w' := by
    intro u w' g' hx hi hv
    refine hK _ _ g' ⟨cnew, ?_, ?_, hm.ext.trans hx, hi, fun t => ?_⟩
    · cases hd : oj.dst with
      | none => exact hm.size
      | some d => simpa [Act.put] using hm.size
    · cases hd : oj.dst <;> exact hm.defers
    · rw [vnew t]
      have hold := Rep.mono hx.le _ _ (hm.slots t)
      cases hd : oj.dst with
      | none => simpa [Act.put] using hold
      | some d =>
        have hlt : d < a.tmps.size := by rw [hm.size]; exact hN d ⟨oj, by simpa using Array.mem_of_getElem? hj, hd⟩
        by_cases e : d = t
        · subst e; simpa [Act.put, hlt] using hv
        · simpa [Act.put, Array.getElem?_setIfInBounds, e] using hold
  unfold wpOp
  rw [hj]
  have hwant : ∀ b, Wanted all (S j) oj b → Region.wanted oj (yielded all a.tmps) = b := fun b hb =>
    wanted_of (g := g) (w := w) hb (fun d hd => by rw [hm.size]; exact hN d hd) (fun i want d hg hd => by
      rw [← valj d (looks_guard hg hd)]; exact hm.slots d)
  have hops : ∀ x, x ∈ oj.op.operands.toList → Rep g w (ev (S j) x) (a.eval x) := by
    intro x hx
    cases x with
    | tmp t =>
      show Rep g w (lk (S j) t) _
      rw [← valj t (looks_operand hx)]
      exact hm.slots t
    | const v => exact rep_ofConst g w v
    | global i => exact rep_global hm.inv.gl i
    | func f => exact ⟨#[], #[], rfl, rfl, rfl⟩
  rcases ht.step j oj (Nat.zero_le _) hj with ⟨hw, hst⟩ | ⟨hw, hv, hz, htag⟩
  · simp only [hwant true hw, if_true]
    refine .inl ?_
    have go : ∀ σ', Step P oj (S j) ⟨bAt Z T L all.size, tAt Z T L all.size⟩ σ' (V j) → σ' = ⟨bAt Z T (addTo L j) all.size, tAt Z T (addTo L j) all.size⟩ → oj.wp P a w K Q := by
      intro σ' hs e
      subst e
      exact hs g w a K Q hm.inv hops fin
    rw [tnew] at go
    cases htj : T j with
    | pure =>
      rw [bnewN (by rw [htj]; rfl)] at go
      rw [htj] at hst go
      exact go _ (hst.2 _) (by simp [Tag.wT])
    | rb =>
      have hb := bj (.inl htj)
      rw [bnewN (by rw [htj]; rfl)] at go
      rw [htj] at hst go
      rw [hb] at go
      exact go _ (hst.2 _) (by simp [Tag.wT])
    | wb =>
      have hb := bj (.inr (by rw [htj]; rfl))
      rw [bnewW (by rw [htj]; rfl)] at go
      rw [htj] at hst go
      rw [hb] at go
      exact go _ (hst.2 _) (by simp [Tag.wT])
    | tk =>
      have hb := tj (by rw [htj]; rfl)
      rw [bnewN (by rw [htj]; rfl)] at go
      rw [htj] at hst go
      rw [hb] at go
      exact go _ (hst.2 _) (by simp [Tag.wT])
    | rt =>
      have hb := tj (by rw [htj]; rfl)
      rw [bnewN (by rw [htj]; rfl)] at go
      rw [htj] at hst go
      rw [hb] at go
      exact go _ (hst.2 _) (by simp [Tag.wT])
    | all =>
      have hb := bj (.inr (by rw [htj]; rfl))
      have hb' := tj (by rw [htj]; rfl)
      rw [bnewW (by rw [htj]; rfl)] at go
      rw [htj] at hst go
      rw [hb, hb'] at go
      exact go _ hst (by simp [Tag.wT])
    | ri i =>
      have hb := bi i (.inl htj)
      rw [bnewN (by rw [htj]; rfl)] at go
      rw [htj] at hst go
      exact go _ (hst.2 _ _ hb) (by simp [Tag.wT])
    | wi i =>
      have hb := bi i (.inr htj)
      rw [htj] at hst
      obtain ⟨ob, hz, hst⟩ := hst
      rw [bnewO i ob htj (by rw [hz])] at go
      rw [htj] at go
      exact go _ (hst _ _ hb) (by simp [Tag.wT])
  · simp only [hwant false hw, Bool.false_eq_true, if_false]
    refine fin undef w g (Ext.refl g w) ?_ (by rw [hv]; exact ⟨#[], rfl, rfl⟩)
    rw [bnewN (by rw [htag]; rfl), tnew, htag]
    simpa [Tag.wT] using hm.inv
theorem mid_any {ht : Trace P all 0 S Z T V} (hor : Ordered all T) {N : Nat} {D : List Deferred} {g0 : Gh} {w0 : World} (hN : ∀ d, (∃ o' ∈ all.toList, o'.dst = some d) → d < N)
    {Q : Exit → Act → World → Prop} (hQ : ∀ a w g, Mid ht N D g0 w0 (fun i => decide (i < all.size)) g w a → Q .normal a w) :
    ∀ (fuel : Nat) (listed : Array Bool) (g : Gh) (w : World) (a : Act), listed.size = all.size → (List.range all.size).countP (fun i => !listed.getD i true) = fuel →
      Mid ht N D g0 w0 (fun i => listed.getD i false) g w a → wpAny P .any all Q fuel listed a w := by
  have done : ∀ (listed : Array Bool) (g : Gh) (w : World) (a : Act), listed.size = all.size → (∀ i, i < all.size → listed.getD i true = true) → Mid ht N D g0 w0 (fun i => listed.getD i false) g w a → Q .normal a w := by
    intro listed g w a hs hall hm
    have : (fun i => listed.getD i false) = fun i => decide (i < all.size) := by
      funext i
      by_cases h : i < all.size
      · have := hall i h
        simp only [Array.getD_eq_getD_getElem?, Array.getElem?_eq_getElem (show i < listed.size by omega), Option.getD_some] at this ⊢
        simp [this, h]
      · simp [Array.getElem?_eq_none (show listed.size ≤ i by omega), h]
    rw [this] at hm
    exact hQ a w g hm
  have nxt : ∀ (listed : Array Bool), listed.size = all.size → Region.ready .any all listed = [] → ∀ i, i < all.size → listed.getD i true = true := by
    intro listed hs hr i
    induction i using Nat.strongRecOn with
    | ind i ih =>
      intro hi
      cases hl : listed.getD i true with
      | true => rfl
      | false =>
        exfalso
        have ho := Array.getElem?_eq_getElem hi
        have hmem : i ∈ Region.ready .any all listed := by
          unfold Region.ready
          rw [List.mem_filter]
          refine ⟨List.mem_range.2 hi, ?_⟩
          rw [hl, ho]
          simp only [Bool.not_false, Bool.true_and, Option.map_some, Option.getD_some]
          rw [← Array.all_toList, List.all_eq_true]
          intro e he
          cases hb : Region.binds .any e with
          | false => rfl
          | true =>
            have hlt := hor.edge i _ ho e he hb
            have := ih e.on hlt (by omega)
            simp only [Array.getD_eq_getD_getElem?, Array.getElem?_eq_getElem (show e.on < listed.size by omega), Option.getD_some] at this ⊢
            simp [this]
        rw [hr] at hmem
        cases hmem
  intro fuel
  induction fuel with
  | zero =>
    intro listed g w a hs hc hm
    have hall : ∀ i, i < all.size → listed.getD i true = true := by
      intro i hi
      rw [List.countP_eq_zero] at hc
      simpa using hc i (List.mem_range.2 hi)
    refine ⟨?_, done listed g w a hs hall hm⟩
    unfold Region.ready
    rw [List.filter_eq_nil_iff]
    intro i hi
    rw [hall i (List.mem_range.1 hi)]
    simp
  | succ fuel ih =>
    intro listed g w a hs hc hm
    refine ⟨fun hr => done listed g w a hs (nxt listed hs hr) hm, fun j hjm => ?_⟩
    unfold Region.ready at hjm
    rw [List.mem_filter, List.mem_range] at hjm
    obtain ⟨hj, hrd⟩ := hjm
    have ho := Array.getElem?_eq_getElem hj
    rw [ho] at hrd
    simp only [Bool.and_eq_true, Option.map_some, Option.getD_some] at hrd
    rw [← Array.all_toList, List.all_eq_true] at hrd
    have hjl : j < listed.size := by omega
    have hn : listed[j] = false := by simpa [hjl] using hrd.1
    refine mid_step hor hN hm ho (by simp [hjl, hn]) (fun e he hb => ?_) (fun a' w' g' hm' => ih _ g' w' a' (by simpa using hs) ?_ ?_)
    · have := hrd.2 e he
      rw [hb] at this
      simpa using this
    · have key : ∀ (n : Nat), j < n → n ≤ all.size → (List.range n).countP (fun i => !(listed.setIfInBounds j true).getD i true) + 1 = (List.range n).countP (fun i => !listed.getD i true) := by
        intro n
        induction n with
        | zero => intro h; omega
        | succ n ihn =>
          intro h1 h2
          rw [List.range_succ, List.countP_append, List.countP_append]
          by_cases e : j = n
          · subst e
            have hsame : (List.range j).countP (fun i => !(listed.setIfInBounds j true).getD i true) = (List.range j).countP (fun i => !listed.getD i true) := by
              apply List.countP_congr
              intro i hi
              have : j ≠ i := by have := List.mem_range.1 hi; omega
              simp [this]
            rw [hsame]
            simp [hjl, hn]
          · have := ihn (by omega) (by omega)
            have hne : (listed.setIfInBounds j true).getD n true = listed.getD n true := by simp [e]
            simp only [List.countP_cons, List.countP_nil, hne]
            omega
      have := key all.size hj (Nat.le_refl _)
      omega
    · have : (fun i => (listed.setIfInBounds j true).getD i false) = addTo (fun i => listed.getD i false) j := by
        funext i
        unfold addTo
        by_cases e : i = j
        · subst e; simp [hjl]
        · simp [Ne.symm e, e]
      rw [this]
      exact hm'
end run
theorem aops_draw {id : Nat} {Q : Exit → Act → World → Prop} {K : AX → Slots → St → Prop} {N : Nat} {D : List Deferred} {g : Gh} {σ : St} {s : Slots} {w : World} {a : Act} (hmix : P.follows .mixedOrders = true)
    (hN : ∀ d, (∃ o' ∈ all.toList, o'.dst = some d) → d < N) (ha : a.tmps.size = N) (hd : a.defers = D) (hi : Inv g σ w) (hs : SRep g w s a.tmps)
    (hK : ∀ s' σ' g' w' (a' : Act), a'.tmps.size = N → a'.defers = D → Ext g w g' w' → Inv g' σ' w' → SRep g' w' s' a'.tmps → K .normal s' σ' → Q .normal a' w')
    (h : AOps P all true K all.toList [] s σ) : (Code.region id all true).wp P Q a w := by
  obtain ⟨S, Z, T, V, ht, hS, hZ, hKn, hok⟩ := trace_of all.toList 0 [] s σ (by simp) h
  have hor : Ordered all T := ordered_of (by simpa using hok)
  refine wp_region_any hmix (mid_any (ht := ht) (g0 := g) (w0 := w) (D := D) (N := N) hor hN (fun a' w' g' hm => ?_) all.size _ g _ a (by simp) ?_ ?_)
  · simp only [Nat.zero_add, Array.length_toList] at hKn
    refine hK (S all.size) (Z all.size) g' w' a' hm.size hm.defers hm.ext ?_ (fun t => ?_) hKn
    · have := hm.inv
      rw [b_upto ht all.size (Nat.le_refl _) (fun i hi _ => by simpa using hi), t_upto ht all.size (Nat.le_refl _) (fun i hi _ => by simpa using hi)] at this
      exact this
    · have := hm.slots t
      rwa [val_upto ht all.size (Nat.le_refl _) (fun i o hi _ _ => by simpa using hi)] at this
  · rw [List.countP_eq_length.2]
    · simp
    · intro i hi
      have := List.mem_range.1 hi
      simp [this]
  · have hf : (fun i => (Array.replicate all.size false).getD i false) = fun _ => false := by
      funext i
      by_cases h : i < all.size <;> simp [h]
    rw [hf]
    have hb : ∀ k, bAt Z T (fun _ => false) k = (Z 0).B := by intro k; induction k with | zero => rfl | succ k ih => rw [bAt, if_neg (by simp), ih]
    have htt : ∀ k, tAt Z T (fun _ => false) k = (Z 0).T := by intro k; induction k with | zero => rfl | succ k ih => rw [tAt, if_neg (by simp), ih]
    have hv : ∀ k t, valAt all (S 0) V (fun _ => false) k t = lk (S 0) t := by intro k t; induction k with | zero => rfl | succ k ih => rw [valAt, if_neg (by simp), ih]
    refine ⟨fun j o h => by simp at h, ha, hd, Ext.drew g w _, ?_, fun t => ?_⟩
    · rw [hb, htt, hZ]
      exact hi.drew _
    · rw [hv, hS]
      exact Rep.mono (Ext.drew g w _).le _ _ (hs t)
end
end Go.Av
