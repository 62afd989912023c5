/-
  The program's values (api.Value, api.Member), as abstract values; how they are read; equality of them.
-/
import Derived.Test.YtijlmchfepjjkaaGreatDoorMBase0
namespace Go.Proofs.YtijlmchfepjjkaaGreatDoor
open Go Go.Av
set_option linter.unusedVariables false

mutual
inductive Val where
  | mk (kind n : Int) (s : Str) (l : List Val) (m : List Mem)
inductive Mem where
  | mk (name : Str) (v : Val)
end
def Val.kind : Val → Int
  | .mk k _ _ _ _ => k
def Val.n : Val → Int
  | .mk _ n _ _ _ => n
def Val.s : Val → Str
  | .mk _ _ s _ _ => s
def Val.l : Val → List Val
  | .mk _ _ _ l _ => l
def Val.m : Val → List Mem
  | .mk _ _ _ _ m => m
def Mem.name : Mem → Str
  | .mk n _ => n
def Mem.v : Mem → Val
  | .mk _ v => v
mutual
def Val.lv : Val → List AV
  | .mk _ _ _ l _ => Val.goL l
def Val.mv : Val → List AV
  | .mk _ _ _ _ m => Val.goM m
def Val.goL : List Val → List AV
  | [] => []
  | v :: l => .agg [.int .i64 v.kind, .int .i64 v.n, .str v.s, .slice (Val.lv v) .no, .slice (Val.mv v) .no] :: Val.goL l
def Val.goM : List Mem → List AV
  | [] => []
  | .mk name v :: l => .agg [.str name, .int .i64 v.kind, .int .i64 v.n, .str v.s, .slice (Val.lv v) .no, .slice (Val.mv v) .no] :: Val.goM l
end
def Val.enc (v : Val) : AV := .agg [.int .i64 v.kind, .int .i64 v.n, .str v.s, .slice v.lv .no, .slice v.mv .no]
def Mem.enc (m : Mem) : AV := .agg [.str m.name, .int .i64 m.v.kind, .int .i64 m.v.n, .str m.v.s, .slice m.v.lv .no, .slice m.v.mv .no]
theorem Val.goL_eq : ∀ l : List Val, Val.goL l = l.map Val.enc
  | [] => by simp [Val.goL]
  | v :: l => by rw [Val.goL, Val.goL_eq l]; rfl
theorem Val.goM_eq : ∀ l : List Mem, Val.goM l = l.map Mem.enc
  | [] => by simp [Val.goM]
  | .mk n v :: l => by rw [Val.goM, Val.goM_eq l]; rfl
theorem Val.lv_eq (v : Val) : v.lv = v.l.map Val.enc := by cases v; rw [Val.lv, Val.goL_eq]; rfl
theorem Val.mv_eq (v : Val) : v.mv = v.m.map Mem.enc := by cases v; rw [Val.mv, Val.goM_eq]; rfl
theorem Val.lv_len (v : Val) : v.lv.length = v.l.length := by rw [Val.lv_eq, List.length_map]
theorem Val.mv_len (v : Val) : v.mv.length = v.m.length := by rw [Val.mv_eq, List.length_map]
theorem Val.lv_get {v : Val} {k : Nat} (h : k < v.l.length) : v.lv[k]? = some v.l[k].enc := by rw [Val.lv_eq]; simp [h]
theorem Val.mv_get {v : Val} {k : Nat} (h : k < v.m.length) : v.mv[k]? = some v.m[k].enc := by rw [Val.mv_eq]; simp [h]

mutual
theorem Val.closed : ∀ v : Val, v.enc.closed = true
  | .mk k n s l m => by
    simp only [Val.enc, AV.closed, AV.closedL, Bool.and_true, Bool.true_and]
    rw [Val.lv, Val.mv, Val.closedL l, Val.closedM m]
    rfl
theorem Val.closedL : ∀ l : List Val, AV.closedL (Val.goL l) = true
  | [] => by simp [Val.goL, AV.closedL]
  | v :: l => by
    have h1 := Val.closed v
    have h2 := Val.closedL l
    rw [Val.goL, AV.closedL, h2, Bool.and_true]
    exact h1
theorem Val.closedM : ∀ l : List Mem, AV.closedL (Val.goM l) = true
  | [] => by simp [Val.goM, AV.closedL]
  | .mk n v :: l => by
    have h1 := Val.closed v
    have h2 := Val.closedM l
    rw [Val.goM, AV.closedL, h2, Bool.and_true]
    simpa only [Val.enc, AV.closed, AV.closedL, Bool.and_true, Bool.true_and] using h1
end
theorem Val.lv_closed (v : Val) : AV.closedL v.lv = true := by cases v; rw [Val.lv]; exact Val.closedL _
theorem Val.mv_closed (v : Val) : AV.closedL v.mv = true := by cases v; rw [Val.mv]; exact Val.closedM _
theorem Mem.closed (m : Mem) : m.enc.closed = true := by
  simp only [Mem.enc, AV.closed, AV.closedL, Val.lv_closed, Val.mv_closed]; rfl
theorem Val.fits (v : Val) : Av.fits true 5 v.enc = true := rfl
theorem Mem.fits (m : Mem) : Av.fits true 6 m.enc = true := rfl

mutual
def Val.size : Val → Nat
  | .mk _ _ s l m => s.length + Val.sizeL l + Val.sizeM m + 6
def Val.sizeL : List Val → Nat
  | [] => 0
  | v :: l => Val.size v + Val.sizeL l
def Val.sizeM : List Mem → Nat
  | [] => 0
  | .mk n v :: l => n.length + 2 + Val.size v + Val.sizeM l
end
def Mem.size (m : Mem) : Nat := m.name.length + 2 + m.v.size
theorem Val.sizeL_eq : ∀ l : List Val, Val.sizeL l = sumSize Val.size l
  | [] => by simp [Val.sizeL, sumSize]
  | v :: l => by rw [Val.sizeL, sumSize, Val.sizeL_eq l]
theorem Val.sizeM_eq : ∀ l : List Mem, Val.sizeM l = sumSize Mem.size l
  | [] => by simp [Val.sizeM, sumSize]
  | .mk n v :: l => by rw [Val.sizeM, sumSize, Val.sizeM_eq l]; rfl
theorem Val.size_eq (v : Val) : v.size = v.s.length + sumSize Val.size v.l + sumSize Mem.size v.m + 6 := by
  cases v; rw [Val.size, Val.sizeL_eq, Val.sizeM_eq]; rfl
theorem Val.size_pos (v : Val) : 1 ≤ v.size := by rw [Val.size_eq]; omega
theorem Mem.size_pos (m : Mem) : 1 ≤ m.size := by unfold Mem.size; omega
theorem Val.size_l {v : Val} {k : Nat} (h : k < v.l.length) : v.l[k].size < v.size := by
  have := sumSize_mem (size := Val.size) (List.getElem_mem h)
  rw [v.size_eq]; omega
theorem Val.size_m {v : Val} {k : Nat} (h : k < v.m.length) : v.m[k].v.size < v.size := by
  have := sumSize_mem (size := Mem.size) (List.getElem_mem h)
  have h2 : v.m[k].size = v.m[k].name.length + 2 + v.m[k].v.size := rfl
  rw [v.size_eq]; omega
theorem Val.l_len (v : Val) : v.l.length ≤ v.size := by
  have := sumSize_length Val.size_pos v.l
  rw [v.size_eq]; omega
theorem Val.m_len (v : Val) : v.m.length ≤ v.size := by
  have := sumSize_length Mem.size_pos v.m
  rw [v.size_eq]; omega

mutual
def Val.ok : Val → Prop
  | .mk k n _ l m => (Lit.int .i64 k).wf = true ∧ (Lit.int .i64 n).wf = true ∧ Val.okL l ∧ Val.okM m
def Val.okL : List Val → Prop
  | [] => True
  | v :: l => Val.ok v ∧ Val.okL l
def Val.okM : List Mem → Prop
  | [] => True
  | .mk _ v :: l => Val.ok v ∧ Val.okM l
end
def Mem.ok (m : Mem) : Prop := m.v.ok
theorem Val.okL_of : ∀ {l : List Val}, (∀ x ∈ l, x.ok) → Val.okL l
  | [], _ => by rw [Val.okL]; trivial
  | v :: l, h => by rw [Val.okL]; exact ⟨h v (by simp), Val.okL_of fun x hx => h x (by simp [hx])⟩
theorem Val.okM_of : ∀ {l : List Mem}, (∀ x ∈ l, x.ok) → Val.okM l
  | [], _ => by rw [Val.okM]; trivial
  | .mk n v :: l, h => by rw [Val.okM]; exact ⟨h (.mk n v) (by simp), Val.okM_of fun x hx => h x (by simp [hx])⟩

theorem reads_i64 (n : Nat) : ReadN Tryz.prog n 2 false (fun x : Int => .int .i64 x) (fun _ => 1) (fun x => (Lit.int .i64 x).wf = true) := ReadN.int Tryz.underlying2
theorem ReadN.zero {P : Program} {t : TypeId} {agg : Bool} {α : Type} {enc : α → AV} {size : α → Nat} {ok : α → Prop} : ReadN P 0 t agg enc size ok := fun _ _ _ fuel _ _ _ h1 h2 => by
  cases fuel with
  | zero => simp [DataW.trod] at h2
  | succ m => omega

theorem reads_all : ∀ n : Nat, ReadN Tryz.prog n 30 true Val.enc Val.size Val.ok ∧ ReadN Tryz.prog n 27 false (fun l => .slice (l.map Val.enc) .no) (fun l => sumSize Val.size l + 1) (fun l => ∀ x ∈ l, x.ok) ∧
    ReadN Tryz.prog n 77 true Mem.enc Mem.size Mem.ok ∧ ReadN Tryz.prog n 28 false (fun l => .slice (l.map Mem.enc) .no) (fun l => sumSize Mem.size l + 1) (fun l => ∀ x ∈ l, x.ok)
  | 0 => ⟨ReadN.zero, ReadN.zero, ReadN.zero, ReadN.zero⟩
  | n + 1 => by
    obtain ⟨h1, h2, h3, h4⟩ := reads_all n
    refine ⟨?_, ReadN.slice Tryz.underlying27 (c := 5) (by kernel_rfl) (by decide) h1, ?_, ReadN.slice Tryz.underlying28 (c := 6) (by kernel_rfl) (by decide) h3⟩
    · refine (ReadN.struct Tryz.underlying30 (by kernel_rfl)
        (ReadF.cons (c := 1) rfl (by kernel_rfl) (one_cell fun _ => rfl) (reads_int n)
          (ReadF.cons (c := 1) rfl (by kernel_rfl) (one_cell fun _ => rfl) (reads_i64 n)
            (ReadF.cons (c := 1) rfl (by kernel_rfl) (one_cell fun _ => rfl) (reads_str n)
              (ReadF.cons (c := 1) rfl (by kernel_rfl) (one_cell fun _ => rfl) h2
                (ReadF.cons (c := 1) rfl (by kernel_rfl) (one_cell fun _ => rfl) h4 ReadF.nil)))))).map
        (fun x => Val.mk x.1 x.2.1 x.2.2.1 x.2.2.2.1 x.2.2.2.2.1) (fun x => ?_) (fun x => ?_) (fun x h => ?_)
      · simp only [Val.enc, Val.lv, Val.mv, Val.goL_eq, Val.goM_eq]; rfl
      · simp only [Val.size, Val.sizeL_eq, Val.sizeM_eq]; omega
      · rw [Val.ok]; exact ⟨h.1, h.2.1, Val.okL_of h.2.2.2.1, Val.okM_of h.2.2.2.2.1⟩
    · refine (ReadN.struct Tryz.underlying77 (by kernel_rfl)
        (ReadF.cons (c := 1) rfl (by kernel_rfl) (one_cell fun _ => rfl) (reads_str n)
          (ReadF.cons (c := 5) rfl (by kernel_rfl) (flat_cells fun _ => ⟨_, rfl⟩) h1 ReadF.nil))).map
        (fun x => Mem.mk x.1 x.2.1) (fun x => ?_) (fun x => ?_) (fun x h => h.2.1)
      · rfl
      · show Mem.size _ ≤ _; unfold Mem.size; simp only [Mem.name, Mem.v]; omega
theorem reads_val (n : Nat) : ReadN Tryz.prog n 30 true Val.enc Val.size Val.ok := (reads_all n).1
theorem reads_mems (n : Nat) : ReadN Tryz.prog n 28 false (fun l => .slice (l.map Mem.enc) .no) (fun l => sumSize Mem.size l + 1) (fun l => ∀ x ∈ l, x.ok) := (reads_all n).2.2.2

mutual
def sameV : Val → Val → Bool
  | .mk k n s l m, .mk k' n' s' l' m' => k == k' && n == n' && s == s' && sameL l l' && sameM m m'
def sameL : List Val → List Val → Bool
  | [], [] => true
  | a :: l, b :: l' => sameV a b && sameL l l'
  | _, _ => false
def sameM : List Mem → List Mem → Bool
  | [], [] => true
  | .mk n a :: l, .mk n' b :: l' => n == n' && sameV a b && sameM l l'
  | _, _ => false
end
end Go.Proofs.YtijlmchfepjjkaaGreatDoor
