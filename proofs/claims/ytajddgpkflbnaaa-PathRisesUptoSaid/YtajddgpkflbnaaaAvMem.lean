/-
  The rules of operations on memory: variables, slices.
-/
import Derived.Test.YtajddgpkflbnaaaAvOps
set_option linter.unusedVariables false
namespace Go.Av
open Go
set_option linter.unusedSectionVars false
variable [Globals]

/-! Forced reckoning: the results come written out. -/
def takeK {α : Type} : Nat → List AV → (List AV → Option α) → Option α
  | 0, _, k => k []
  | n + 1, x :: l, k => takeK n l fun r => k (x :: r)
  | _ + 1, [], _ => none
def dropL : Nat → List AV → List AV
  | 0, l => l
  | n + 1, _ :: l => dropL n l
  | _ + 1, [] => []
def smallLen {α : Type} : List α → Option Nat
  | [] => some 0
  | [_] => some 1
  | [_, _] => some 2
  | [_, _, _] => some 3
  | [_, _, _, _] => some 4
  | [_, _, _, _, _] => some 5
  | [_, _, _, _, _, _] => some 6
  | [_, _, _, _, _, _, _] => some 7
  | [_, _, _, _, _, _, _, _] => some 8
  | [_, _, _, _, _, _, _, _, _] => some 9
  | [_, _, _, _, _, _, _, _, _, _] => some 10
  | [_, _, _, _, _, _, _, _, _, _, _] => some 11
  | [_, _, _, _, _, _, _, _, _, _, _, _] => some 12
  | l => some l.length
/-- The part of a flat list that a type takes, from off on. -/
def cut (agg : Bool) (n off : Nat) (cs : List AV) : Option AV :=
  match agg with
  | true => takeK n (dropL off cs) fun r => some (.agg r)
  | false => match dropL off cs with
    | c :: _ => some c
    | [] => none
/-- The cells of a value. -/
def cellsK {α : Type} (v : AV) (k : List AV → Option α) : Option α :=
  match v with
  | .agg cs => k cs
  | .undef => none
  | .tup _ => none
  | .bool b => k [.bool b]
  | .int i n => k [.int i n]
  | .str s => k [.str s]
  | .slice xs t => k [.slice xs t]
  | .ptr i o => k [.ptr i o]
  | .rptr x => k [.rptr x]
  | .nilp => k [.nilp]
  | .fn f a b => k [.fn f a b]
  | .nilfn => k [.nilfn]
  | .iface t x => k [.iface t x]
  | .nili => k [.nili]
  | .map i => k [.map i]
  | .nilmap => k [.nilmap]
  | .iter i => k [.iter i]
  | .view xs n => k [.view xs n]
  | .vec i z n l h => k [.vec i z n l h]
  | .vptr i z n j o => k [.vptr i z n j o]
/-- Does a value fit a type of n cells? -/
def fits (agg : Bool) (n : Nat) : AV → Bool
  | .agg cs => agg && Nat.beq cs.length n
  | .undef => false
  | .tup _ => false
  | _ => !agg && Nat.beq n 1

/-- Cells written over from off on. -/
def overK {α : Type} : Nat → List AV → List AV → (List AV → Option α) → Option α
  | 0, vs, cs, k => go vs cs k
  | n + 1, vs, c :: cs, k => overK n vs cs fun r => k (c :: r)
  | _ + 1, _, [], _ => none
where
  go : List AV → List AV → (List AV → Option α) → Option α
    | [], cs, k => k cs
    | v :: vs, _ :: cs, k => go vs cs fun r => k (v :: r)
    | _ :: _, [], _ => none
/-- An object written anew. -/
def setK {α : Type} : Nat → List Ob → (Ob → (Ob → Option α) → Option α) → (List Ob → Option α) → Option α
  | 0, o :: B, f, k => f o fun o' => k (o' :: B)
  | n + 1, o :: B, f, k => setK n B f fun r => k (o :: r)
  | _, [], _, _ => none
def snocK {α β : Type} : List β → β → (List β → Option α) → Option α
  | [], o, k => k [o]
  | x :: B, o, k => snocK B o fun r => k (x :: r)

theorem takeK_spec {α : Type} : ∀ (n : Nat) (l : List AV) (k : List AV → Option α) (r : α), takeK n l k = some r → n ≤ l.length ∧ k (l.take n) = some r
  | 0, l, k, r, h => ⟨Nat.zero_le _, by simpa [takeK] using h⟩
  | n + 1, x :: l, k, r, h => by
    have := takeK_spec n l _ r h
    exact ⟨by simpa using this.1, by simpa using this.2⟩
  | n + 1, [], k, r, h => by cases h
theorem dropL_eq : ∀ (n : Nat) (l : List AV), dropL n l = l.drop n
  | 0, l => rfl
  | n + 1, x :: l => by rw [dropL, dropL_eq n l]; rfl
  | n + 1, [] => rfl
theorem cut_spec {agg : Bool} {n off : Nat} {cs : List AV} {v : AV} (h : cut agg n off cs = some v) :
    (agg = true ∧ off + n ≤ max cs.length off ∧ v = .agg ((cs.drop off).take n) ∧ n ≤ (cs.drop off).length) ∨ (agg = false ∧ cs[off]? = some v) := by
  unfold cut at h
  cases agg with
  | true =>
    obtain ⟨h1, h2⟩ := takeK_spec _ _ _ _ h
    rw [dropL_eq] at h1 h2
    refine .inl ⟨rfl, ?_, (Option.some.inj h2).symm, h1⟩
    rw [List.length_drop] at h1
    omega
  | false =>
    right
    refine ⟨rfl, ?_⟩
    simp only [dropL_eq] at h
    cases hd : cs.drop off with
    | nil => rw [hd] at h; cases h
    | cons c l =>
      rw [hd] at h
      cases h
      have : (cs.drop off)[0]? = some v := by rw [hd]; rfl
      simpa using this
/-- The cells of a value, as a list. -/
def cellsL : AV → List AV
  | .agg cs => cs
  | v => [v]
theorem cellsK_pure {α : Type} {v : AV} {k : List AV → Option α} {r : α} (h : cellsK v k = some r) : k (cellsL v) = some r ∧ cellsK v some = some (cellsL v) := by
  cases v <;> first | exact ⟨h, rfl⟩ | cases h
theorem cellsK_spec {α : Type} {v : AV} {k : List AV → Option α} {r : α} (h : cellsK v k = some r) {g : Gh} {w : World} {u : Value} (hv : Rep g w v u) :
    ∃ cs, k cs = some r ∧ RepL g w cs u.cells.toList ∧ (∀ x ∈ u.cells.toList, x.oneCell' = true) := by
  cases v with
  | agg cs => obtain ⟨vs, rfl, h1, h2⟩ := hv; exact ⟨cs, h, h1, h2⟩
  | undef => cases h
  | tup cs => cases h
  | bool b => cases (show u = _ from hv); exact ⟨_, h, ⟨_, [], rfl, rfl, rfl⟩, by simp [Value.cells, Value.oneCell']⟩
  | int i n => cases (show u = _ from hv); exact ⟨_, h, ⟨_, [], rfl, rfl, rfl⟩, by simp [Value.cells, Value.oneCell']⟩
  | str s => cases (show u = _ from hv); exact ⟨_, h, ⟨_, [], rfl, rfl, rfl⟩, by simp [Value.cells, Value.oneCell']⟩
  | slice xs t =>
    have hv' := hv
    obtain ⟨a, cap, sz, Vs, rfl, _⟩ := hv
    exact ⟨_, h, ⟨_, [], rfl, hv', rfl⟩, by simp [Value.cells, Value.oneCell']⟩
  | ptr i o =>
    have hv' := hv
    obtain ⟨b, _, rfl⟩ := hv
    exact ⟨_, h, ⟨_, [], rfl, hv', rfl⟩, by simp [Value.cells, Value.oneCell']⟩
  | rptr x =>
    have hv' := hv
    obtain ⟨b, o, V, rfl, _⟩ := hv
    exact ⟨_, h, ⟨_, [], rfl, hv', rfl⟩, by simp [Value.cells, Value.oneCell']⟩
  | nilp => cases (show u = _ from hv); exact ⟨_, h, ⟨_, [], rfl, rfl, rfl⟩, by simp [Value.cells, Value.oneCell']⟩
  | fn f a b =>
    have hv' := hv
    obtain ⟨vs, ws, rfl, _⟩ := hv
    exact ⟨_, h, ⟨_, [], rfl, hv', rfl⟩, by simp [Value.cells, Value.oneCell']⟩
  | nilfn => cases (show u = _ from hv); exact ⟨_, h, ⟨_, [], rfl, rfl, rfl⟩, by simp [Value.cells, Value.oneCell']⟩
  | iface t x =>
    have hv' := hv
    obtain ⟨y, rfl, _⟩ := hv
    exact ⟨_, h, ⟨_, [], rfl, hv', rfl⟩, by simp [Value.cells, Value.oneCell']⟩
  | nili => cases (show u = _ from hv); exact ⟨_, h, ⟨_, [], rfl, rfl, rfl⟩, by simp [Value.cells, Value.oneCell']⟩
  | map i =>
    have hv' := hv
    obtain ⟨b, _, rfl⟩ := hv
    exact ⟨_, h, ⟨_, [], rfl, hv', rfl⟩, by simp [Value.cells, Value.oneCell']⟩
  | nilmap => cases (show u = _ from hv); exact ⟨_, h, ⟨_, [], rfl, rfl, rfl⟩, by simp [Value.cells, Value.oneCell']⟩
  | iter i =>
    have hv' := hv
    obtain ⟨b, _, rfl⟩ := hv
    exact ⟨_, h, ⟨_, [], rfl, hv', rfl⟩, by simp [Value.cells, Value.oneCell']⟩
  | view xs n =>
    have hv' := hv
    obtain ⟨a, cap, sz, Vs, rfl, _⟩ := hv
    exact ⟨_, h, ⟨_, [], rfl, hv', rfl⟩, by simp [Value.cells, Value.oneCell']⟩
  | vptr i z n j o =>
    have hv' := hv
    obtain ⟨b, o, rfl, _⟩ := hv
    exact ⟨_, h, ⟨_, [], rfl, hv', rfl⟩, by simp [Value.cells, Value.oneCell']⟩
  | vec i z n l hh =>
    have hv' := hv
    obtain ⟨a, cap, rfl, _⟩ := hv
    exact ⟨_, h, ⟨_, [], rfl, hv', rfl⟩, by simp [Value.cells, Value.oneCell']⟩
theorem fits_spec {agg : Bool} {n : Nat} {v : AV} (h : fits agg n v = true) {g : Gh} {w : World} {u : Value} (hv : Rep g w v u) :
    u.cells.size = n ∧ (agg = true → ∃ vs, u = .agg vs ∧ vs.size = n) ∧ (agg = false → u.cells = #[u] ∧ n = 1) ∧ (∀ x ∈ u.cells.toList, x.oneCell' = true) := by
  have one : ∀ (agg : Bool), (!agg && Nat.beq n 1) = true → u.cells = #[u] → u.oneCell' = true → u.cells.size = n ∧ (agg = true → ∃ vs, u = .agg vs ∧ vs.size = n) ∧ (agg = false → u.cells = #[u] ∧ n = 1) ∧ (∀ x ∈ u.cells.toList, x.oneCell' = true) := by
    intro agg h1 h2 h3
    simp only [Bool.and_eq_true, Bool.not_eq_true'] at h1
    have h4 : n = 1 := Nat.eq_of_beq_eq_true h1.2
    rw [h2]
    refine ⟨by rw [h4]; rfl, fun e => ?_, fun _ => ⟨rfl, h4⟩, fun x hx => ?_⟩
    · rw [h1.1] at e; cases e
    · simp at hx; subst hx; exact h3
  cases v with
  | agg cs =>
    obtain ⟨vs, rfl, h1, h2⟩ := hv
    simp only [fits, Bool.and_eq_true] at h
    have h3 : cs.length = n := Nat.eq_of_beq_eq_true h.2
    have h4 : vs.size = n := by have := h1.length; simp at this; omega
    refine ⟨h4, fun _ => ⟨vs, rfl, h4⟩, fun e => ?_, h2⟩
    rw [h.1] at e; cases e
  | undef => cases h
  | tup cs => cases h
  | slice xs t => obtain ⟨a, cap, sz, Vs, rfl, _⟩ := hv; exact one agg h rfl rfl
  | ptr i o => obtain ⟨b, _, rfl⟩ := hv; exact one agg h rfl rfl
  | rptr x => obtain ⟨b, o, V, rfl, _⟩ := hv; exact one agg h rfl rfl
  | fn f a b => obtain ⟨vs, ws, rfl, _⟩ := hv; exact one agg h rfl rfl
  | iface t x => obtain ⟨y, rfl, _⟩ := hv; exact one agg h rfl rfl
  | map i => obtain ⟨b, _, rfl⟩ := hv; exact one agg h rfl rfl
  | iter i => obtain ⟨b, _, rfl⟩ := hv; exact one agg h rfl rfl
  | view xs n => obtain ⟨a, cap, sz, Vs, rfl, _⟩ := hv; exact one agg h rfl rfl
  | vec i z n l hh => obtain ⟨a, cap, rfl, _⟩ := hv; exact one agg h rfl rfl
  | vptr i z n j o => obtain ⟨b, o, rfl, _⟩ := hv; exact one agg h rfl rfl
  | bool b => cases (show u = _ from hv); exact one agg h rfl rfl
  | int i n => cases (show u = _ from hv); exact one agg h rfl rfl
  | str s => cases (show u = _ from hv); exact one agg h rfl rfl
  | nilp => cases (show u = _ from hv); exact one agg h rfl rfl
  | nilfn => cases (show u = _ from hv); exact one agg h rfl rfl
  | nili => cases (show u = _ from hv); exact one agg h rfl rfl
  | nilmap => cases (show u = _ from hv); exact one agg h rfl rfl
theorem overGo_spec {α : Type} : ∀ (vs cs : List AV) (k : List AV → Option α) (r : α), overK.go vs cs k = some r → vs.length ≤ cs.length ∧ k (vs ++ cs.drop vs.length) = some r
  | [], cs, k, r, h => ⟨Nat.zero_le _, by simpa [overK.go] using h⟩
  | v :: vs, c :: cs, k, r, h => by
    have := overGo_spec vs cs _ r h
    exact ⟨by simpa using this.1, by simpa using this.2⟩
  | v :: vs, [], k, r, h => by cases h
theorem overK_spec {α : Type} : ∀ (n : Nat) (vs cs : List AV) (k : List AV → Option α) (r : α), overK n vs cs k = some r →
    n + vs.length ≤ cs.length ∧ k (cs.take n ++ vs ++ cs.drop (n + vs.length)) = some r
  | 0, vs, cs, k, r, h => by
    have := overGo_spec vs cs k r h
    simpa using this
  | n + 1, vs, c :: cs, k, r, h => by
    have := overK_spec n vs cs _ r h
    refine ⟨by simp; omega, ?_⟩
    have e : n + 1 + vs.length = (n + vs.length) + 1 := by omega
    rw [e]
    simpa using this.2
  | n + 1, vs, [], k, r, h => by cases h
theorem setK_spec {α : Type} : ∀ (i : Nat) (B : List Ob) (f : Ob → (Ob → Option α) → Option α) (k : List Ob → Option α) (r : α), setK i B f k = some r →
    ∃ o, B[i]? = some o ∧ f o (fun o' => k (B.set i o')) = some r
  | 0, o :: B, f, k, r, h => ⟨o, rfl, h⟩
  | n + 1, o :: B, f, k, r, h => by
    obtain ⟨o1, h1, h2⟩ := setK_spec n B f _ r h
    exact ⟨o1, by simpa using h1, by simpa using h2⟩
  | 0, [], f, k, r, h => by cases h
  | n + 1, [], f, k, r, h => by cases h
theorem snocK_spec {α β : Type} : ∀ (B : List β) (o : β) (k : List β → Option α) (r : α), snocK B o k = some r → k (B ++ [o]) = some r
  | [], o, k, r, h => h
  | x :: B, o, k, r, h => snocK_spec B o _ r h
theorem smallLen_spec {α : Type} {l : List α} {n : Nat} (h : smallLen l = some n) : l.length = n := by
  unfold smallLen at h
  split at h <;> cases h <;> rfl
end Go.Av
