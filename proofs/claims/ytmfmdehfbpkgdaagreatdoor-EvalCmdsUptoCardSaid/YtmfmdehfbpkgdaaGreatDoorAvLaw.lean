/-
  The table of a program's types: an entry out of closed facts.
-/
import Derived.ProofKit
import Derived.JoinedCond
import Derived.Carry
import Derived.Test.YtmfmdehfbpkgdaaGreatDoorAvRen4
set_option linter.unusedVariables false
namespace Go.Av
open Go
set_option linter.unusedSectionVars false
variable [Globals]
def fieldsOkB (P : Program) : TypeDesc → Bool
  | .struct fs => fs.toList.all fun f => (P.info? f.type).isSome && (P.underlying f.type).isSome
  | _ => true
theorem tok_mk {P : Program} {t : TypeId} {ti : TI} {d : TypeDesc} (z : Value) (h1 : (P.info? t).map (fun i => (i.size, i.bytes, i.zero)) = some (ti.size, ti.bytes, some z)) (h2 : P.underlying t = some d) (h3 : kindOf d = ti.kind) (h4 : elemOf' d = ti.elem)
    (h5 : isAgg' d = ti.agg) (h6 : ofConst z = ti.zero) (h7 : z.cells.size = ti.size) (h8 : fieldsOf P d = ti.fields) (h9 : (z.cells.toList.all fun v => v.oneCell') = true) (h10 : fieldsOkB P d = true) : TOk P t ti := by
  cases hi : P.info? t with
  | none => rw [hi] at h1; cases h1
  | some info =>
    rw [hi] at h1
    simp only [Option.map_some, Option.some.injEq, Prod.mk.injEq] at h1
    refine ⟨⟨info, d, z, hi, h2, h3, h4, h5, h1.1, h1.2.1, h1.2.2, h6, h7, h8, h9, fun fs e f hf => ?_⟩⟩
    subst e
    have := List.all_eq_true.1 h10 f hf
    simpa using this
end Go.Av
set_option linter.unusedVariables false
namespace Go.Av
open Go Go.RowKit Go.ChangeShapes Go.WideShapes Go.ChangeAt
set_option linter.unusedSectionVars false
variable [Globals]
mutual
def bulk {H : Type} : DataW H → Nat
  | .lit (.string bytes) => bytes.length + 1
  | .lit _ => 1
  | .nil => 1
  | .ptr d => bulk d + 1
  | .slice elems spare => bulkAll elems + bulkAll spare + 1
  | .agg parts => bulkAll parts + 1
  | .iface _ d => bulk d + 1
  | .map entries => bulkEntries entries + 1
  | .held _ => 1
def bulkAll {H : Type} : List (DataW H) → Nat
  | [] => 0
  | d :: r => bulk d + bulkAll r
def bulkEntries {H : Type} : List (Lit × DataW H) → Nat
  | [] => 0
  | x :: r => bulkEntry x + bulkEntries r
def bulkEntry {H : Type} : Lit × DataW H → Nat
  | (.string bytes, d) => bytes.length + bulk d + 1
  | (_, d) => bulk d + 1
end
def old (w : World) : Gh := ⟨[], [], fun b _ => b < w.heap.size⟩
def valOf (agg : Bool) (cs : List Value) : Value := if agg then .agg cs.toArray else cs.headD undef
def ReadN (P : Program) (n : Nat) (t : TypeId) (agg : Bool) {α : Type} (enc : α → AV) (size : α → Nat) (ok : α → Prop) : Prop :=
  ∀ (H : Type) (eh : TypeId × Value → H) (w : World) (fuel : Nat) (cs : List Value) (d : DataW H) (ps : List MemPlace), fuel ≤ n → DataW.trod eh P w 0 (fun _ => true) true fuel t cs = some (d, ps) →
    ∃ x : α, Rep (old w) w (enc x) (valOf agg cs) ∧ (valOf agg cs).cells.toList = cs ∧ (∀ u ∈ cs, u.oneCell' = true) ∧ size x ≤ bulk d ∧ ok x
section
variable {P : Program} {n : Nat}
theorem ReadN.int {t : TypeId} {k : IntKind} (ht : P.underlying t = some (.int k)) : ReadN P n t false (fun x : Int => .int k x) (fun _ => 1) (fun x => (Lit.int k x).wf = true) := by
  intro H eh w fuel cs d ps _ h
  obtain ⟨m, rfl, hx, hwf⟩ := DataW.trod_int ht h
  cases hx
  exact ⟨m, rfl, rfl, by simp [Value.oneCell'], by simp [bulk], hwf⟩
theorem ReadN.bool {t : TypeId} (ht : P.underlying t = some .bool) : ReadN P n t false (fun x : Bool => .bool x) (fun _ => 1) (fun _ => True) := by
  intro H eh w fuel cs d ps _ h
  obtain ⟨b, rfl, hx⟩ := DataW.trod_bool ht h
  cases hx
  exact ⟨b, rfl, rfl, by simp [Value.oneCell'], by simp [bulk], trivial⟩
theorem ReadN.string {t : TypeId} (ht : P.underlying t = some .string) : ReadN P n t false (fun x : List UInt8 => .str x) (fun x => x.length + 1) (fun _ => True) := by
  intro H eh w fuel cs d ps _ h
  obtain ⟨s, rfl, hx, hs⟩ := DataW.trod_string ht h
  cases hx
  refine ⟨s.data.toList, ?_, rfl, by simp [Value.oneCell'], by simp [bulk], trivial⟩
  show Value.string s = .string ⟨s.data.toList.toArray⟩
  simp
theorem exists_list {α : Type} {p : Nat → α → Prop} : ∀ n : Nat, (∀ i, i < n → ∃ x, p i x) → ∃ l : List α, l.length = n ∧ ∀ (i : Nat) (x : α), l[i]? = some x → p i x
  | 0, _ => ⟨[], rfl, fun i x h => by simp at h⟩
  | n + 1, h => by
    obtain ⟨l, h1, h2⟩ := exists_list n fun i hi => h i (by omega)
    obtain ⟨x, hx⟩ := h n (by omega)
    refine ⟨l ++ [x], by simp [h1], fun i y hy => ?_⟩
    by_cases e : i < n
    · rw [List.getElem?_append_left (by omega)] at hy; exact h2 i y hy
    · have hlt := (List.getElem?_eq_some_iff.1 hy).1
      simp at hlt
      have : i = n := by omega
      subst this
      rw [← h1] at hy
      simp at hy
      subst hy
      exact hx
def sumSize {α : Type} (size : α → Nat) : List α → Nat
  | [] => 0
  | x :: l => size x + sumSize size l
theorem sumSize_mem {α : Type} {size : α → Nat} {x : α} {l : List α} (h : x ∈ l) : size x ≤ sumSize size l := by
  induction l with
  | nil => cases h
  | cons y r ih =>
    simp only [sumSize]
    cases List.mem_cons.1 h with
    | inl e => subst e; omega
    | inr e => have := ih e; omega
theorem sumSize_length {α : Type} {size : α → Nat} (h1 : ∀ x, 1 ≤ size x) : ∀ l : List α, l.length ≤ sumSize size l
  | [] => Nat.zero_le _
  | x :: l => by have := h1 x; have := sumSize_length h1 l; simp only [sumSize, List.length_cons]; omega
theorem sumSize_le {α H : Type} {size : α → Nat} : ∀ (l : List α) (ds : List (DataW H)), l.length = ds.length → (∀ (i : Nat) (x : α) (d : DataW H), l[i]? = some x → ds[i]? = some d → size x ≤ bulk d) → sumSize size l ≤ bulkAll ds
  | [], _, _, _ => Nat.zero_le _
  | x :: l, [], h, _ => by simp at h
  | x :: l, d :: ds, h, hh => by
    have h1 := hh 0 x d rfl rfl
    have h2 := sumSize_le l ds (by simpa using h) fun i y e hy he => hh (i + 1) y e (by simpa using hy) (by simpa using he)
    simp only [sumSize, bulkAll]
    omega
theorem repL_of_get {g : Gh} {w : World} : ∀ (xs : List AV) (Vs : List Value), xs.length = Vs.length → (∀ (i : Nat) (x : AV) (V : Value), xs[i]? = some x → Vs[i]? = some V → Rep g w x V) → RepL g w xs Vs
  | [], [], _, _ => rfl
  | [], _ :: _, h, _ => by simp at h
  | _ :: _, [], h, _ => by simp at h
  | x :: xs, V :: Vs, h, hh => ⟨V, Vs, rfl, hh 0 x V rfl rfl, repL_of_get xs Vs (by simpa using h) fun i y u hy hu => hh (i + 1) y u (by simpa using hy) (by simpa using hu)⟩
theorem ReadN.slice {t e : TypeId} {agg : Bool} {α : Type} {enc : α → AV} {size : α → Nat} {ok : α → Prop} {c : Nat} (ht : P.underlying t = some (.slice e)) (hc : P.cellsOf e = c) (hc0 : 0 < c) (h : ReadN P n e agg enc size ok) :
    ReadN P (n + 1) t false (fun l : List α => .slice (l.map enc) .no) (fun l => sumSize size l + 1) (fun l => ∀ x ∈ l, ok x) := by
  have he : 0 < P.cellsOf e := by rw [hc]; exact hc0
  intro H eh w fuel cs d ps hle hd
  rcases DataW.trod_slice ht hd with ⟨rfl, hx⟩ | ⟨a, len, cap, elems, rs, m, rfl, rfl, hx, h1, h2, h3, h4, h5, _⟩
  · cases hx
    refine ⟨[], ⟨none, 0, 0, [], rfl, Nat.le_refl _, by simp [maxLen], trivial, rfl, fun _ => ⟨rfl, rfl⟩, fun p hp => by cases hp⟩, rfl, by simp [Value.oneCell'], by simp [bulk, sumSize], by simp⟩
  · cases hx
    have hel : ∀ i, i < len → ∃ (p : α × List Value), (∀ j, j < P.cellsOf e → ∃ v, p.2[j]? = some v ∧ w.cell? ((a.add (i * P.cellsOf e)).add j) = some v) ∧ p.2.length = P.cellsOf e ∧ Rep (old w) w (enc p.1) (valOf agg p.2) ∧ (valOf agg p.2).cells.toList = p.2 ∧
        (∀ u ∈ p.2, u.oneCell' = true) ∧ (∀ y, elems[i]? = some y → size p.1 ≤ bulk y.1) ∧ ok p.1 := by
      intro i hi
      have hi' := h5 i hi
      have hlt : i < elems.length := by omega
      rw [List.getElem?_eq_getElem hlt] at hi'
      obtain ⟨csi, hcc, hy⟩ := Option.bind_eq_some_iff.1 hi'
      unfold World.cells? at hcc
      split at hcc
      case isFalse => cases hcc
      have hclen := mapM_some_length hcc
      have hcget := fun j (hj : j < P.cellsOf e) => mapM_some_get hcc j j (by simp [hj])
      obtain ⟨x, r1, r2, r3, r4, r5⟩ := h H eh w m csi elems[i].1 elems[i].2 (by omega) hy
      refine ⟨(x, csi), fun j hj => ?_, by simpa using hclen, r1, r2, r3, fun y hy' => ?_, r5⟩
      · have hjl : j < csi.length := by simp at hclen; omega
        exact ⟨csi[j], List.getElem?_eq_getElem hjl, by rw [hcget j hj, List.getElem?_eq_getElem hjl]⟩
      · rw [List.getElem?_eq_getElem hlt] at hy'
        cases hy'
        exact r4
    obtain ⟨l, hl, hlp⟩ := exists_list len hel
    have hspot : a.spot = none ∨ l = [] := by
      rcases Nat.eq_zero_or_pos len with e0 | e0
      · right; exact List.eq_nil_of_length_eq_zero (by omega)
      · left
        have hl0 : 0 < l.length := by omega
        obtain ⟨v, _, hv⟩ := (hlp 0 _ (List.getElem?_eq_getElem hl0)).1 0 he
        simp only [Nat.zero_mul] at hv
        unfold Addr.add World.cell? at hv
        simp only [if_true] at hv
        cases hs : a.spot with
        | none => rfl
        | some s =>
          simp only [hs, Option.isSome_some, if_true] at hv
          split at hv <;> cases hv
    refine ⟨l.map (·.1), ⟨some a, cap, P.cellsOf e, l.map fun p => valOf agg p.2, by simp [hl, valOf], by simpa [hl] using h2, h3, trivial, ?_, (fun h => by cases h), fun p hp => ?_⟩, rfl, by simp [Value.oneCell'], ?_, ?_⟩
    · refine repL_of_get _ _ (by simp) fun i x V hx hV => ?_
      simp only [List.getElem?_map, Option.map_eq_some_iff] at hx hV
      obtain ⟨x', ⟨q, hq, rfl⟩, rfl⟩ := hx
      obtain ⟨q', hq', rfl⟩ := hV
      rw [hq] at hq'
      cases hq'
      exact (hlp i q hq).2.2.1
    · cases hp
      refine ⟨hspot.imp id fun e => by simp [e], fun i V hV => ?_⟩
      simp only [List.getElem?_map, Option.map_eq_some_iff] at hV
      obtain ⟨q, hq, rfl⟩ := hV
      obtain ⟨q1, q2, q3, q4, q5, _⟩ := hlp i q hq
      have hsz : (valOf agg q.2).cells.size = P.cellsOf e := by rw [← Array.length_toList, q4, q2]
      refine ⟨hsz, fun j u hj => ?_⟩
      have hj' : j < P.cellsOf e := by have := (Array.getElem?_eq_some_iff.1 hj).1; omega
      rw [← Array.getElem?_toList, q4] at hj
      obtain ⟨v, hv1, hv2⟩ := q1 j hj'
      rw [hj] at hv1
      cases hv1
      have hs : a.spot = none := hspot.resolve_right fun e => by rw [e] at hq; simp at hq
      obtain ⟨ab, ao, asp⟩ := a
      cases (show asp = none from hs)
      rw [addr_add, addr_add] at hv2
      refine ⟨?_, hv2, q5 u (List.mem_of_getElem? hj)⟩
      show ab < w.heap.size
      unfold World.cell? at hv2
      cases hb : w.heap[ab]? with
      | none => simp [hb] at hv2
      | some o => exact (Array.getElem?_eq_some_iff.1 hb).1
    · simp only [bulk]
      have : sumSize size (l.map (·.1)) ≤ bulkAll (elems.map (·.1)) := sumSize_le _ _ (by simp [hl, h4]) fun i x y hx hy => by
        simp only [List.getElem?_map, Option.map_eq_some_iff] at hx hy
        obtain ⟨q, hq, rfl⟩ := hx
        obtain ⟨z, hz, rfl⟩ := hy
        exact (hlp i q hq).2.2.2.2.2.1 z hz
      omega
    · intro x hx
      obtain ⟨q, hq, rfl⟩ := List.mem_map.1 hx
      obtain ⟨i, hi⟩ := List.getElem?_of_mem hq
      exact (hlp i q hi).2.2.2.2.2.2
def cellsA (v : AV) : List AV :=
  match v with
  | .agg cs => cs
  | v => [v]
def ReadF (P : Program) (n : Nat) (fs : List Field) (off : Nat) {α : Type} (enc : α → List AV) (size : α → Nat) (ok : α → Prop) : Prop :=
  ∀ (H : Type) (eh : TypeId × Value → H) (w : World) (fuel : Nat) (cs : List Value) (xs : List (DataW H × List MemPlace)), fuel ≤ n → xs.length = fs.length →
    (∀ (i : Nat) (f : Field), fs[i]? = some f → DataW.trod eh P w 0 (fun _ => true) true fuel f.type ((cs.drop f.offset).take (P.cellsOf f.type)) = xs[i]?) → cs.length = off + (fs.map fun f => P.cellsOf f.type).sum →
    ∃ x : α, RepL (old w) w (enc x) (cs.drop off) ∧ (∀ u ∈ cs.drop off, u.oneCell' = true) ∧ size x ≤ bulkAll (xs.map (·.1)) ∧ ok x
theorem ReadF.nil {off : Nat} : ReadF P n [] off (fun _ : Unit => []) (fun _ => 0) (fun _ => True) := by
  intro H eh w fuel cs xs _ _ _ hl
  have : cs.drop off = [] := List.drop_eq_nil_of_le (by simp at hl; omega)
  rw [this]
  exact ⟨(), rfl, by simp, Nat.zero_le _, trivial⟩
theorem ReadF.cons {f : Field} {fs : List Field} {off c : Nat} {agg : Bool} {α β : Type} {enc : α → AV} {size : α → Nat} {ok : α → Prop} {enc' : β → List AV} {size' : β → Nat} {ok' : β → Prop}
    (ho : f.offset = off) (hc : P.cellsOf f.type = c) (hagg : ∀ x, (agg = true → ∃ cs, enc x = .agg cs) ∧ (agg = false → cellsA (enc x) = [enc x])) (h1 : ReadN P n f.type agg enc size ok) (h2 : ReadF P n fs (off + c) enc' size' ok') :
    ReadF P n (f :: fs) off (fun x : α × β => cellsA (enc x.1) ++ enc' x.2) (fun x => size x.1 + size' x.2) (fun x => ok x.1 ∧ ok' x.2) := by
  intro H eh w fuel cs xs hle hxl hx hl
  cases xs with
  | nil => simp at hxl
  | cons x0 xs =>
    have e0 := hx 0 f rfl
    simp only [List.getElem?_cons_zero] at e0
    obtain ⟨x, r1, r2, r3, r4, r5⟩ := h1 H eh w fuel _ x0.1 x0.2 hle e0
    obtain ⟨y, s1, s2, s3, s4⟩ := h2 H eh w fuel cs xs hle (by simpa using hxl) (fun i f' hf' => by have := hx (i + 1) f' (by simpa using hf'); simpa using this) (by
      rw [hl]
      simp only [List.map_cons, List.sum_cons, hc]
      omega)
    rw [ho, hc] at r1 r2 r3
    have hsplit : cs.drop off = (cs.drop off).take c ++ cs.drop (off + c) := by rw [← List.drop_drop, List.take_append_drop]
    refine ⟨(x, y), ?_, ?_, ?_, r5, s4⟩
    · rw [hsplit]
      refine RepL.append ?_ s1
      cases e : agg with
      | true =>
        obtain ⟨cs', hcs⟩ := (hagg x).1 e
        rw [e, hcs] at r1
        obtain ⟨vs, hv, hvl, _⟩ := r1
        rw [hcs]
        have : vs = ((cs.drop off).take c).toArray := by simpa [valOf] using hv.symm
        rw [this] at hvl
        simpa [cellsA] using hvl
      | false =>
        rw [(hagg x).2 e]
        rw [e] at r1 r2
        have hne : (cs.drop off).take c ≠ [] := by
          intro hnil
          rw [hnil] at r2
          simp [valOf, undef, Value.cells] at r2
        obtain ⟨v, vs, hvs⟩ := List.exists_cons_of_ne_nil hne
        rw [hvs] at r1 r2 r3 ⊢
        simp only [valOf, Bool.false_eq_true, if_false, List.headD_cons] at r1 r2
        have h1c := r3 v (by simp)
        have hcv : v.cells = #[v] := by cases v <;> first | rfl | cases h1c
        rw [hcv] at r2
        have : vs = [] := by simpa using r2
        subst this
        exact ⟨v, [], rfl, r1, rfl⟩
    · intro u hu
      rw [hsplit] at hu
      rcases List.mem_append.1 hu with hu | hu
      · exact r3 u hu
      · exact s2 u hu
    · simp only [List.map_cons, bulkAll]
      omega
theorem one_cell {α : Type} {enc : α → AV} (h : ∀ x, cellsA (enc x) = [enc x]) (x : α) : (false = true → ∃ cs, enc x = .agg cs) ∧ (false = false → cellsA (enc x) = [enc x]) := ⟨(fun e => by cases e), fun _ => h x⟩
theorem flat_cells {α : Type} {enc : α → AV} (h : ∀ x, ∃ cs, enc x = .agg cs) (x : α) : (true = true → ∃ cs, enc x = .agg cs) ∧ (true = false → cellsA (enc x) = [enc x]) := ⟨fun _ => h x, (fun e => by cases e)⟩
theorem ReadN.struct {t : TypeId} {fs : Array Field} {α : Type} {enc : α → List AV} {size : α → Nat} {ok : α → Prop} (ht : P.underlying t = some (.struct fs)) (hc : P.cellsOf t = (fs.toList.map fun f => P.cellsOf f.type).sum) (h : ReadF P n fs.toList 0 enc size ok) :
    ReadN P (n + 1) t true (fun x : α => .agg (enc x)) (fun x => size x + 1) ok := by
  intro H eh w fuel cs d ps hle hd
  obtain ⟨xs, m, rfl, hx, hl, hxl, hf⟩ := DataW.trod_struct ht hd
  cases hx
  obtain ⟨x, r1, r2, r3, r4⟩ := h H eh w m cs xs (by omega) (by simpa using hxl) (fun i f hfi => hf i f (by simpa using hfi)) (by rw [hl, hc]; omega)
  rw [List.drop_zero] at r1 r2
  exact ⟨x, ⟨cs.toArray, rfl, by simpa using r1, by simpa using r2⟩, by simp [valOf, Value.cells], r2, by simp only [bulk]; omega, r4⟩
theorem ReadN.map {t : TypeId} {agg : Bool} {α β : Type} {enc : α → AV} {size : α → Nat} {ok : α → Prop} {enc' : β → AV} {size' : β → Nat} {ok' : β → Prop} (h : ReadN P n t agg enc size ok)
    (f : α → β) (h1 : ∀ x, enc' (f x) = enc x) (h2 : ∀ x, size' (f x) ≤ size x) (h3 : ∀ x, ok x → ok' (f x)) : ReadN P n t agg enc' size' ok' := by
  intro H eh w fuel cs d ps hle hd
  obtain ⟨x, r1, r2, r3, r4, r5⟩ := h H eh w fuel cs d ps hle hd
  exact ⟨f x, by rw [h1]; exact r1, r2, r3, Nat.le_trans (h2 x) r4, h3 x r5⟩
end
section
variable {H : Type} {eh : TypeId × Value → H} {P : Program} {w : World}
theorem read_arg {t : TypeId} {agg : Bool} {α : Type} {enc : α → AV} {size : α → Nat} {ok : α → Prop} (h : ∀ n, ReadN P n t agg enc size ok) (hagg : ((P.underlying t).map isAgg').getD false = agg) {base : Nat} {v : Value} (hok : Value.okWide P w .any base t v)
    {d : DataW H} {ps : List MemPlace} (hd : DataW.Trod eh P w 0 (fun _ => true) true t v d ps) : ∃ x : α, Rep (old w) w (enc x) v ∧ size x ≤ bulk d ∧ ok x := by
  obtain ⟨fuel, hf⟩ := hd
  obtain ⟨x, r1, r2, r3, r4, r5⟩ := h fuel H eh w fuel _ d ps (Nat.le_refl _) hf
  refine ⟨x, ?_, r4, r5⟩
  have : valOf agg v.cells.toList = v := by
    cases hu : P.underlying t with
    | none =>
      unfold Value.okWide at hok
      rw [hu] at hok
      simp [Cell.okWide, Cell.ok, hu] at hok
    | some dsc =>
      rw [hu] at hagg
      simp only [Option.map_some, Option.getD_some] at hagg
      subst hagg
      cases hag : isAgg' dsc with
      | true =>
        unfold Value.okWide at hok
        rw [hu] at hok
        cases dsc <;> first | (cases hag; done) | (obtain ⟨cs, rfl, _⟩ := hok; simp [valOf, Value.cells])
      | false =>
        rw [hag] at r2
        have h1 : ∀ vs, v = .agg vs → False := by
          intro vs e
          subst e
          unfold Value.okWide at hok
          rw [hu] at hok
          cases dsc <;> first | (cases hag; done) | (simp [Cell.okWide, Cell.ok, hu] at hok)
        have hcv : v.cells = #[v] := by cases v <;> first | rfl | exact (h1 _ rfl).elim
        rw [hcv]
        rfl
  rwa [this] at r1
theorem post_true {f : Func} {s : ChangeSpec} {W W' : World} {args : Array Value} {ds gs : List (DataW H)} {before : List MemPlace} {tb : TypeId} (hl : laidOutB P = true) (hv : s.vars = []) (hr : f.resultTypes = #[tb]) (hb : P.underlying tb = some .bool)
    (hparams : ∀ t ∈ f.params.toList, P.readableRec t = true ∧ t < P.types.size) (hs : (s.fn H (ds ++ gs)) = { results := [.lit (.bool true)], args := ds })
    (hW : DataW.Whole eh P f.params.toList s.vars false W args.toList ds gs before) (hbel : Below W.heap.size W W') : s.post eh P f false true false false W args (.bool true) W' := by
  have hlt := hW.lt
  have hW' := hW
  obtain ⟨p, q, hA, hV, rfl, hfz, hnd⟩ := hW
  rw [hv] at hV
  have hgs : gs = [] ∧ q = [] := by
    cases gs with
    | nil => exact ⟨rfl, hV⟩
    | cons g gs => exact hV.elim
  obtain ⟨rfl, rfl⟩ := hgs
  refine ⟨ds, [], _, [], p, [], hW', ?_, ?_, ?_, ?_, fun h => by cases h⟩
  · rw [hs, hr]
    exact ⟨[], [], ⟨1, by simp [DataW.trod, Value.cells, hb]⟩, rfl, rfl⟩
  · rw [hs]
    have key : ∀ (ts : List TypeId) (vs : List Value) (ds : List (DataW H)) (ps : List MemPlace), (∀ t ∈ ts, P.readableRec t = true ∧ t < P.types.size) → (∀ x ∈ ps, x.block < W.heap.size) → DataW.TrodAll eh P W 0 (fun _ => true) true ts vs ds ps →
        DataW.TrodAll eh P W' 0 (fun b => decide (b < W.heap.size)) true ts vs ds ps := by
      intro ts
      induction ts with
      | nil => intro vs ds ps _ _ h; cases vs <;> cases ds <;> exact h
      | cons t ts ih =>
        intro vs ds ps ht hp h
        cases vs with
        | nil => cases ds <;> exact h.elim
        | cons v vs =>
          cases ds with
          | nil => exact h.elim
          | cons d ds =>
            obtain ⟨p1, q1, h1, h2, rfl⟩ := h
            exact ⟨p1, q1, Below.trod hl (ht t (by simp)).1 (ht t (by simp)).2 h1 hbel (fun x hx => hp x (by simp [hx])), ih vs ds q1 (fun t' ht' => ht t' (by simp [ht'])) (fun x hx => hp x (by simp [hx])) h2, rfl⟩
    exact key _ _ _ _ hparams (fun x hx => hlt x (by simp [hx])) hA
  · rw [hs, hv]; rfl
  · exact hbel.frame _
theorem PFn.true_below {f : FuncId} {vals : List AV} (h : PFn P f vals (.bool true)) {W : World} {args : Array Value} (hgl : GlobOk (fun b _ => b < W.heap.size) W) (hl : RepL (old W) W vals args.toList) : Calls P f args W fun e W' => e = .returned (.bool true) ∧ Below W.heap.size W W' := by
  refine (h.2.2 _ W args (fun b o hb => hb) hgl hl).mono ?_
  rintro e w' ⟨im', h1, h2, u, rfl, h3⟩
  refine ⟨by rw [show u = .bool true from h3], ⟨h1.os, h1.tape, h1.output, h1.size, fun k hk => h1.fr k hk (by simp) (fun j r h => by simp at h)⟩⟩
end
end Go.Av
