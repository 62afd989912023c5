/-
  Contracts and plain facts for a law, joined.
-/
import Derived.Test.YtgghkkeejagfkaaGreatDoorAvGo
import Derived.Test.YtgghkkeejagfkaaGreatDoorTable
import Derived.Test.YtgghkkeejagfkaaGreatDoorAvLaw
import Derived.Test.YtgghkkeejagfkaaGreatDoorAvMap
set_option maxRecDepth 100000
set_option maxHeartbeats 16000000
set_option linter.unusedVariables false
set_option linter.unusedSimpArgs false
set_option linter.unusedSectionVars false
namespace Go.Av
open Go
variable [Globals]
structure Hide (Q : Prop) : Prop where
  val : Q
theorem HCode.go {P : Program} [Lay P] {N : Nat} {D : List Deferred} {c : Code} {K : AX → Slots → St → Prop} {s : Slots} {σ : St} {Q : Prop} (q : Q)
    (h : Hide Q → HCode P N D c K s σ := by intro q; (repeat' first | refine .seq ?_ | refine .rg ?_ | refine .rd ?_ | refine .block ?_ | refine .scope ?_ | refine .skip ?_ | refine .label ?_ | refine .exit ?_ | refine .ret ?_ | refine .ct ?_ | refine .cf ?_ | refine .cy ?_ | refine .cn ?_ | (refine .cond rfl ?_ ?_ <;> intro hc) | refine A.nil_seq ?_ | refine .nl ?_ | refine .dd ?_ | refine .ys ?_ | refine .no ?_ | (refine A.guard rfl ?_ ?_ <;> intro hc) | refine .lb ?_ | refine .ln ?_ | refine .ls ?_ | refine .pv ?_ | refine .ix ?_ | refine .pt ?_ | refine .pf ?_ | refine .bx ?_ | refine .al ?_ | refine .st ?_ | refine .ad ?_ | refine .sb ?_ | refine .mf ?_ | refine .cl ?_ | refine .cw ?_ | refine .ck ?_ | fail); exact q.val) : HCode P N D c K s σ := h ⟨q⟩
theorem AOps.go {P : Program} [Lay P] {all : Array Oper} {draw : Bool} {l : List Oper} {K : AX → Slots → St → Prop} {acc : List Tag} {s : Slots} {σ : St} {Q : Prop} (q : Q)
    (h : Hide Q → AOps P all draw K l acc s σ := by intro q; (repeat' first | refine .seq ?_ | refine .rg ?_ | refine .rd ?_ | refine .block ?_ | refine .scope ?_ | refine .skip ?_ | refine .label ?_ | refine .exit ?_ | refine .ret ?_ | refine .ct ?_ | refine .cf ?_ | refine .cy ?_ | refine .cn ?_ | (refine .cond rfl ?_ ?_ <;> intro hc) | refine A.nil_seq ?_ | refine .nl ?_ | refine .dd ?_ | refine .ys ?_ | refine .no ?_ | (refine A.guard rfl ?_ ?_ <;> intro hc) | refine .lb ?_ | refine .ln ?_ | refine .ls ?_ | refine .pv ?_ | refine .ix ?_ | refine .pt ?_ | refine .pf ?_ | refine .bx ?_ | refine .al ?_ | refine .st ?_ | refine .ad ?_ | refine .sb ?_ | refine .mf ?_ | refine .cl ?_ | refine .cw ?_ | refine .ck ?_ | fail); exact q.val) : AOps P all draw K l acc s σ := h ⟨q⟩
theorem HCode.gob {P : Program} [Lay P] {N : Nat} {D : List Deferred} {c : Code} {K : AX → Slots → St → Prop} {s : Slots} {σ : St} {Q : Prop} (q : Q)
    (h : Hide Q → HCode P N D c K s σ := by intro q; (repeat' first | refine .br ?_ | refine .seq ?_ | refine .rg ?_ | refine .rd ?_ | refine .block ?_ | refine .scope ?_ | refine .skip ?_ | refine .label ?_ | refine .exit ?_ | refine .ret ?_ | refine .ct ?_ | refine .cf ?_ | refine .cy ?_ | refine .cn ?_ | (refine .cond rfl ?_ ?_ <;> intro hc) | refine A.nil_seq ?_ | refine .nl ?_ | refine .dd ?_ | refine .ys ?_ | refine .no ?_ | (refine A.guard rfl ?_ ?_ <;> intro hc) | refine .lb ?_ | refine .ln ?_ | refine .ls ?_ | refine .pv ?_ | refine .ix ?_ | refine .pt ?_ | refine .pf ?_ | refine .bx ?_ | refine .al ?_ | refine .st ?_ | refine .ad ?_ | refine .sb ?_ | refine .mf ?_ | refine .cl ?_ | refine .cw ?_ | refine .ck ?_ | fail); exact q.val) : HCode P N D c K s σ := h ⟨q⟩
theorem AOps.gob {P : Program} [Lay P] {all : Array Oper} {draw : Bool} {l : List Oper} {K : AX → Slots → St → Prop} {acc : List Tag} {s : Slots} {σ : St} {Q : Prop} (q : Q)
    (h : Hide Q → AOps P all draw K l acc s σ := by intro q; (repeat' first | refine .br ?_ | refine .seq ?_ | refine .rg ?_ | refine .rd ?_ | refine .block ?_ | refine .scope ?_ | refine .skip ?_ | refine .label ?_ | refine .exit ?_ | refine .ret ?_ | refine .ct ?_ | refine .cf ?_ | refine .cy ?_ | refine .cn ?_ | (refine .cond rfl ?_ ?_ <;> intro hc) | refine A.nil_seq ?_ | refine .nl ?_ | refine .dd ?_ | refine .ys ?_ | refine .no ?_ | (refine A.guard rfl ?_ ?_ <;> intro hc) | refine .lb ?_ | refine .ln ?_ | refine .ls ?_ | refine .pv ?_ | refine .ix ?_ | refine .pt ?_ | refine .pf ?_ | refine .bx ?_ | refine .al ?_ | refine .st ?_ | refine .ad ?_ | refine .sb ?_ | refine .mf ?_ | refine .cl ?_ | refine .cw ?_ | refine .ck ?_ | fail); exact q.val) : AOps P all draw K l acc s σ := h ⟨q⟩
theorem HCode.s1 {P : Program} [Lay P] {N : Nat} {D : List Deferred} {c : Code} {K : AX → Slots → St → Prop} {s : Slots} {σ : St} {Q : Prop} (q : Q)
    (h : Hide Q → HCode P N D c K s σ := by intro q; (first | refine .seq ?_ | refine .rg ?_ | refine .rd ?_ | refine .block ?_ | refine .scope ?_ | refine .skip ?_ | refine .label ?_ | refine .exit ?_ | refine .ret ?_ | refine .ct ?_ | refine .cf ?_ | refine .cy ?_ | refine .cn ?_ | refine A.nil_seq ?_ | refine .nl ?_ | refine .dd ?_ | refine .ys ?_ | refine .no ?_ | refine .lb ?_ | refine .ln ?_ | refine .ls ?_ | refine .pv ?_ | refine .ix ?_ | refine .pt ?_ | refine .pf ?_ | refine .bx ?_ | refine .al ?_ | refine .st ?_ | refine .ad ?_ | refine .sb ?_ | refine .mf ?_ | refine .cl ?_ | refine .cw ?_ | refine .ck ?_); exact q.val) : HCode P N D c K s σ := h ⟨q⟩
theorem AOps.s1 {P : Program} [Lay P] {all : Array Oper} {draw : Bool} {l : List Oper} {K : AX → Slots → St → Prop} {acc : List Tag} {s : Slots} {σ : St} {Q : Prop} (q : Q)
    (h : Hide Q → AOps P all draw K l acc s σ := by intro q; (first | refine .seq ?_ | refine .rg ?_ | refine .rd ?_ | refine .block ?_ | refine .scope ?_ | refine .skip ?_ | refine .label ?_ | refine .exit ?_ | refine .ret ?_ | refine .ct ?_ | refine .cf ?_ | refine .cy ?_ | refine .cn ?_ | refine A.nil_seq ?_ | refine .nl ?_ | refine .dd ?_ | refine .ys ?_ | refine .no ?_ | refine .lb ?_ | refine .ln ?_ | refine .ls ?_ | refine .pv ?_ | refine .ix ?_ | refine .pt ?_ | refine .pf ?_ | refine .bx ?_ | refine .al ?_ | refine .st ?_ | refine .ad ?_ | refine .sb ?_ | refine .mf ?_ | refine .cl ?_ | refine .cw ?_ | refine .ck ?_); exact q.val) : AOps P all draw K l acc s σ := h ⟨q⟩
end Go.Av
namespace Go.Proofs.YtgghkkeejagfkaaGreatDoor
open Go Go.Av
abbrev Str := List UInt8
theorem closedL_map {α : Type} {f : α → AV} (h : ∀ x, (f x).closed = true) : ∀ l : List α, AV.closedL (l.map f) = true
  | [] => rfl
  | x :: l => by simp [AV.closedL, h x, closedL_map h l]
theorem reads_str (n : Nat) : ReadN Tryz.prog n 9 false (fun x : Str => .str x) (fun x => x.length + 1) (fun _ => True) := ReadN.string Tryz.underlying9
theorem reads_int (n : Nat) : ReadN Tryz.prog n 3 false (fun x : Int => .int .i64 x) (fun _ => 1) (fun x => (Lit.int .i64 x).wf = true) := ReadN.int Tryz.underlying3
mutual
inductive Val where
  | mk (kind n : Int) (s : Str) (l : List Val) (m : List Mem)
inductive Mem where
  | mk (name : Str) (v : Val)
end
def Val.kind : Val → Int
  | .mk k _ _ _ _ => k
def Val.n : Val → Int
  | .mk _ n _ _ _ => n
def Val.s : Val → Str
  | .mk _ _ s _ _ => s
def Val.l : Val → List Val
  | .mk _ _ _ l _ => l
def Val.m : Val → List Mem
  | .mk _ _ _ _ m => m
def Mem.name : Mem → Str
  | .mk n _ => n
def Mem.v : Mem → Val
  | .mk _ v => v
mutual
def Val.lv : Val → List AV
  | .mk _ _ _ l _ => Val.goL l
def Val.mv : Val → List AV
  | .mk _ _ _ _ m => Val.goM m
def Val.goL : List Val → List AV
  | [] => []
  | v :: l => .agg [.int .i64 v.kind, .int .i64 v.n, .str v.s, .slice (Val.lv v) .no, .slice (Val.mv v) .no] :: Val.goL l
def Val.goM : List Mem → List AV
  | [] => []
  | .mk name v :: l => .agg [.str name, .int .i64 v.kind, .int .i64 v.n, .str v.s, .slice (Val.lv v) .no, .slice (Val.mv v) .no] :: Val.goM l
end
def Val.enc (v : Val) : AV := .agg [.int .i64 v.kind, .int .i64 v.n, .str v.s, .slice v.lv .no, .slice v.mv .no]
def Mem.enc (m : Mem) : AV := .agg [.str m.name, .int .i64 m.v.kind, .int .i64 m.v.n, .str m.v.s, .slice m.v.lv .no, .slice m.v.mv .no]
theorem Val.goL_eq : ∀ l : List Val, Val.goL l = l.map Val.enc
  | [] => by simp [Val.goL]
  | v :: l => by rw [Val.goL, Val.goL_eq l]; rfl
theorem Val.goM_eq : ∀ l : List Mem, Val.goM l = l.map Mem.enc
  | [] => by simp [Val.goM]
  | .mk n v :: l => by rw [Val.goM, Val.goM_eq l]; rfl
theorem Val.lv_eq (v : Val) : v.lv = v.l.map Val.enc := by cases v; rw [Val.lv, Val.goL_eq]; rfl
theorem Val.mv_eq (v : Val) : v.mv = v.m.map Mem.enc := by cases v; rw [Val.mv, Val.goM_eq]; rfl
theorem Val.lv_len (v : Val) : v.lv.length = v.l.length := by rw [Val.lv_eq, List.length_map]
theorem Val.mv_len (v : Val) : v.mv.length = v.m.length := by rw [Val.mv_eq, List.length_map]
theorem Val.lv_get {v : Val} {k : Nat} (h : k < v.l.length) : v.lv[k]? = some v.l[k].enc := by rw [Val.lv_eq]; simp [h]
theorem Val.mv_get {v : Val} {k : Nat} (h : k < v.m.length) : v.mv[k]? = some v.m[k].enc := by rw [Val.mv_eq]; simp [h]
mutual
theorem Val.closed : ∀ v : Val, v.enc.closed = true
  | .mk k n s l m => by
    simp only [Val.enc, AV.closed, AV.closedL, Bool.and_true, Bool.true_and]
    rw [Val.lv, Val.mv, Val.closedL l, Val.closedM m]
    rfl
theorem Val.closedL : ∀ l : List Val, AV.closedL (Val.goL l) = true
  | [] => by simp [Val.goL, AV.closedL]
  | v :: l => by
    have h1 := Val.closed v
    have h2 := Val.closedL l
    rw [Val.goL, AV.closedL, h2, Bool.and_true]
    exact h1
theorem Val.closedM : ∀ l : List Mem, AV.closedL (Val.goM l) = true
  | [] => by simp [Val.goM, AV.closedL]
  | .mk n v :: l => by
    have h1 := Val.closed v
    have h2 := Val.closedM l
    rw [Val.goM, AV.closedL, h2, Bool.and_true]
    simpa only [Val.enc, AV.closed, AV.closedL, Bool.and_true, Bool.true_and] using h1
end
theorem Val.lv_closed (v : Val) : AV.closedL v.lv = true := by cases v; rw [Val.lv]; exact Val.closedL _
theorem Val.mv_closed (v : Val) : AV.closedL v.mv = true := by cases v; rw [Val.mv]; exact Val.closedM _
theorem Mem.closed (m : Mem) : m.enc.closed = true := by
  simp only [Mem.enc, AV.closed, AV.closedL, Val.lv_closed, Val.mv_closed]; rfl
theorem Val.fits (v : Val) : Av.fits true 5 v.enc = true := rfl
theorem Mem.fits (m : Mem) : Av.fits true 6 m.enc = true := rfl
mutual
def Val.size : Val → Nat
  | .mk _ _ s l m => s.length + Val.sizeL l + Val.sizeM m + 6
def Val.sizeL : List Val → Nat
  | [] => 0
  | v :: l => Val.size v + Val.sizeL l
def Val.sizeM : List Mem → Nat
  | [] => 0
  | .mk n v :: l => n.length + 2 + Val.size v + Val.sizeM l
end
def Mem.size (m : Mem) : Nat := m.name.length + 2 + m.v.size
theorem Val.sizeL_eq : ∀ l : List Val, Val.sizeL l = sumSize Val.size l
  | [] => by simp [Val.sizeL, sumSize]
  | v :: l => by rw [Val.sizeL, sumSize, Val.sizeL_eq l]
theorem Val.sizeM_eq : ∀ l : List Mem, Val.sizeM l = sumSize Mem.size l
  | [] => by simp [Val.sizeM, sumSize]
  | .mk n v :: l => by rw [Val.sizeM, sumSize, Val.sizeM_eq l]; rfl
theorem Val.size_eq (v : Val) : v.size = v.s.length + sumSize Val.size v.l + sumSize Mem.size v.m + 6 := by
  cases v; rw [Val.size, Val.sizeL_eq, Val.sizeM_eq]; rfl
theorem Val.size_pos (v : Val) : 1 ≤ v.size := by rw [Val.size_eq]; omega
theorem Mem.size_pos (m : Mem) : 1 ≤ m.size := by unfold Mem.size; omega
theorem Val.size_l {v : Val} {k : Nat} (h : k < v.l.length) : v.l[k].size < v.size := by
  have := sumSize_mem (size := Val.size) (List.getElem_mem h)
  rw [v.size_eq]; omega
theorem Val.size_m {v : Val} {k : Nat} (h : k < v.m.length) : v.m[k].v.size < v.size := by
  have := sumSize_mem (size := Mem.size) (List.getElem_mem h)
  have h2 : v.m[k].size = v.m[k].name.length + 2 + v.m[k].v.size := rfl
  rw [v.size_eq]; omega
theorem Val.l_len (v : Val) : v.l.length ≤ v.size := by
  have := sumSize_length Val.size_pos v.l
  rw [v.size_eq]; omega
theorem Val.m_len (v : Val) : v.m.length ≤ v.size := by
  have := sumSize_length Mem.size_pos v.m
  rw [v.size_eq]; omega
mutual
def Val.ok : Val → Prop
  | .mk k n _ l m => (Lit.int .i64 k).wf = true ∧ (Lit.int .i64 n).wf = true ∧ Val.okL l ∧ Val.okM m
def Val.okL : List Val → Prop
  | [] => True
  | v :: l => Val.ok v ∧ Val.okL l
def Val.okM : List Mem → Prop
  | [] => True
  | .mk _ v :: l => Val.ok v ∧ Val.okM l
end
def Mem.ok (m : Mem) : Prop := m.v.ok
theorem Val.okL_of : ∀ {l : List Val}, (∀ x ∈ l, x.ok) → Val.okL l
  | [], _ => by rw [Val.okL]; trivial
  | v :: l, h => by rw [Val.okL]; exact ⟨h v (by simp), Val.okL_of fun x hx => h x (by simp [hx])⟩
theorem Val.okM_of : ∀ {l : List Mem}, (∀ x ∈ l, x.ok) → Val.okM l
  | [], _ => by rw [Val.okM]; trivial
  | .mk n v :: l, h => by rw [Val.okM]; exact ⟨h (.mk n v) (by simp), Val.okM_of fun x hx => h x (by simp [hx])⟩
theorem reads_i64 (n : Nat) : ReadN Tryz.prog n 2 false (fun x : Int => .int .i64 x) (fun _ => 1) (fun x => (Lit.int .i64 x).wf = true) := ReadN.int Tryz.underlying2
theorem ReadN.zero {P : Program} {t : TypeId} {agg : Bool} {α : Type} {enc : α → AV} {size : α → Nat} {ok : α → Prop} : ReadN P 0 t agg enc size ok := fun _ _ _ fuel _ _ _ h1 h2 => by
  cases fuel with
  | zero => simp [DataW.trod] at h2
  | succ m => omega
theorem reads_all : ∀ n : Nat, ReadN Tryz.prog n 42 true Val.enc Val.size Val.ok ∧ ReadN Tryz.prog n 40 false (fun l => .slice (l.map Val.enc) .no) (fun l => sumSize Val.size l + 1) (fun l => ∀ x ∈ l, x.ok) ∧
    ReadN Tryz.prog n 69 true Mem.enc Mem.size Mem.ok ∧ ReadN Tryz.prog n 38 false (fun l => .slice (l.map Mem.enc) .no) (fun l => sumSize Mem.size l + 1) (fun l => ∀ x ∈ l, x.ok)
  | 0 => ⟨ReadN.zero, ReadN.zero, ReadN.zero, ReadN.zero⟩
  | n + 1 => by
    obtain ⟨h1, h2, h3, h4⟩ := reads_all n
    refine ⟨?_, ReadN.slice Tryz.underlying40 (c := 5) (by kernel_rfl) (by decide) h1, ?_, ReadN.slice Tryz.underlying38 (c := 6) (by kernel_rfl) (by decide) h3⟩
    · refine (ReadN.struct Tryz.underlying42 (by kernel_rfl)
        (ReadF.cons (c := 1) rfl (by kernel_rfl) (one_cell fun _ => rfl) (reads_int n)
          (ReadF.cons (c := 1) rfl (by kernel_rfl) (one_cell fun _ => rfl) (reads_i64 n)
            (ReadF.cons (c := 1) rfl (by kernel_rfl) (one_cell fun _ => rfl) (reads_str n)
              (ReadF.cons (c := 1) rfl (by kernel_rfl) (one_cell fun _ => rfl) h2
                (ReadF.cons (c := 1) rfl (by kernel_rfl) (one_cell fun _ => rfl) h4 ReadF.nil)))))).map
        (fun x => Val.mk x.1 x.2.1 x.2.2.1 x.2.2.2.1 x.2.2.2.2.1) (fun x => ?_) (fun x => ?_) (fun x h => ?_)
      · simp only [Val.enc, Val.lv, Val.mv, Val.goL_eq, Val.goM_eq]; rfl
      · simp only [Val.size, Val.sizeL_eq, Val.sizeM_eq]; omega
      · rw [Val.ok]; exact ⟨h.1, h.2.1, Val.okL_of h.2.2.2.1, Val.okM_of h.2.2.2.2.1⟩
    · refine (ReadN.struct Tryz.underlying69 (by kernel_rfl)
        (ReadF.cons (c := 1) rfl (by kernel_rfl) (one_cell fun _ => rfl) (reads_str n)
          (ReadF.cons (c := 5) rfl (by kernel_rfl) (flat_cells fun _ => ⟨_, rfl⟩) h1 ReadF.nil))).map
        (fun x => Mem.mk x.1 x.2.1) (fun x => ?_) (fun x => ?_) (fun x h => h.2.1)
      · rfl
      · show Mem.size _ ≤ _; unfold Mem.size; simp only [Mem.name, Mem.v]; omega
theorem reads_val (n : Nat) : ReadN Tryz.prog n 42 true Val.enc Val.size Val.ok := (reads_all n).1
theorem reads_mems (n : Nat) : ReadN Tryz.prog n 38 false (fun l => .slice (l.map Mem.enc) .no) (fun l => sumSize Mem.size l + 1) (fun l => ∀ x ∈ l, x.ok) := (reads_all n).2.2.2
mutual
def sameV : Val → Val → Bool
  | .mk k n s l m, .mk k' n' s' l' m' => k == k' && n == n' && s == s' && sameL l l' && sameM m m'
def sameL : List Val → List Val → Bool
  | [], [] => true
  | a :: l, b :: l' => sameV a b && sameL l l'
  | _, _ => false
def sameM : List Mem → List Mem → Bool
  | [], [] => true
  | .mk n a :: l, .mk n' b :: l' => n == n' && sameV a b && sameM l l'
  | _, _ => false
end
theorem Val.lv_low (n m : Nat) (v : Val) : AV.lowL n m v.lv = true := AV.lowL_of_closed n m _ v.lv_closed
theorem Val.mv_low (n m : Nat) (v : Val) : AV.lowL n m v.mv = true := AV.lowL_of_closed n m _ v.mv_closed
theorem Val.low (n m : Nat) (v : Val) : v.enc.low n m = true := AV.low_of_closed n m _ v.closed
theorem sameV_eq (a b : Val) : sameV a b = (a.kind == b.kind && a.n == b.n && a.s == b.s && sameL a.l b.l && sameM a.m b.m) := by cases a; cases b; rw [sameV]; rfl
theorem sameL_len : ∀ {p q : List Val}, p.length ≠ q.length → sameL p q = false
  | [], [], h => absurd rfl h
  | [], _ :: _, _ => by rw [sameL] <;> simp
  | _ :: _, [], _ => by rw [sameL] <;> simp
  | a :: p, b :: q, h => by rw [sameL, sameL_len (p := p) (q := q) (by simpa using h), Bool.and_false]
theorem sameM_len : ∀ {p q : List Mem}, p.length ≠ q.length → sameM p q = false
  | [], [], h => absurd rfl h
  | [], _ :: _, _ => by rw [sameM] <;> simp
  | .mk _ _ :: _, [], _ => by rw [sameM] <;> simp
  | .mk _ _ :: p, .mk _ _ :: q, h => by rw [sameM, sameM_len (p := p) (q := q) (by simpa using h), Bool.and_false]
theorem sameL_drop {a b : List Val} {k : Nat} (h1 : k < a.length) (h2 : k < b.length) : sameL (a.drop k) (b.drop k) = (sameV a[k] b[k] && sameL (a.drop (k + 1)) (b.drop (k + 1))) := by
  rw [List.drop_eq_getElem_cons h1, List.drop_eq_getElem_cons h2, sameL]
theorem sameM_drop {a b : List Mem} {k : Nat} (h1 : k < a.length) (h2 : k < b.length) : sameM (a.drop k) (b.drop k) = (a[k].name == b[k].name && sameV a[k].v b[k].v && sameM (a.drop (k + 1)) (b.drop (k + 1))) := by
  rw [List.drop_eq_getElem_cons h1, List.drop_eq_getElem_cons h2]
  cases a[k]; cases b[k]
  rw [sameM]; rfl
theorem map_get' {α : Type} {f : α → AV} {l : List α} {k : Nat} (h : k < l.length) : (l.map f)[k]? = some (f l[k]) := by simp [h]
theorem Mem.closedL (l : List Mem) : AV.closedL (l.map Mem.enc) = true := closedL_map Mem.closed l
theorem Val.closedL' (l : List Val) : AV.closedL (l.map Val.enc) = true := closedL_map Val.closed l
theorem Mem.lowL (n m : Nat) (l : List Mem) : AV.lowL n m (l.map Mem.enc) = true := AV.lowL_of_closed n m _ (Mem.closedL l)
theorem Val.lowL' (n m : Nat) (l : List Val) : AV.lowL n m (l.map Val.enc) = true := AV.lowL_of_closed n m _ (Val.closedL' l)
structure Typ where
  name : Str
  lists : Int
  musts : Int
  deriving DecidableEq
def Typ.enc (t : Typ) : AV := .agg [.str t.name, .int .i64 t.lists, .int .i64 t.musts]
structure Dirc where
  name : Str
  args : List Mem
def Dirc.enc (d : Dirc) : AV := .agg [.str d.name, .slice (d.args.map Mem.enc) .no]
structure Par where
  name : Str
  t : Typ
  has : Bool
  d : Val
def Par.enc (p : Par) : AV := .agg [.str p.name, .str p.t.name, .int .i64 p.t.lists, .int .i64 p.t.musts, .bool p.has, .int .i64 p.d.kind, .int .i64 p.d.n, .str p.d.s, .slice p.d.lv .no, .slice p.d.mv .no]
structure Fld where
  name : Str
  params : List Par
  t : Typ
  dirs : List Dirc
def Fld.enc (f : Fld) : AV := .agg [.str f.name, .slice (f.params.map Par.enc) .no, .str f.t.name, .int .i64 f.t.lists, .int .i64 f.t.musts, .slice (f.dirs.map Dirc.enc) .no]
structure Dfn where
  kind : Int
  name : Str
  faces : List Str
  fields : List Fld
  parts : List Str
  params : List Par
def Dfn.enc (d : Dfn) : AV := .agg [.int .i64 d.kind, .str d.name, .slice (d.faces.map AV.str) .no, .slice (d.fields.map Fld.enc) .no, .slice (d.parts.map AV.str) .no, .slice (d.params.map Par.enc) .no]
structure Sch where
  defs : List Dfn
  query : Str
  mutation : Str
def Sch.enc (s : Sch) : AV := .agg [.slice (s.defs.map Dfn.enc) .no, .str s.query, .str s.mutation]
structure Spt where
  var : Str
  t : Typ
  has : Bool
  deriving DecidableEq
def Spt.enc (x : Spt) : AV := .agg [.str x.var, .str x.t.name, .int .i64 x.t.lists, .int .i64 x.t.musts, .bool x.has]
theorem str_closedL (l : List Str) : AV.closedL (l.map AV.str) = true := closedL_map (fun _ => rfl) l
theorem int_closedL (l : List Int) : AV.closedL (l.map (AV.int .i64)) = true := closedL_map (fun _ => rfl) l
@[simp] theorem lowL_int (n m : Nat) (l : List Int) : AV.lowL n m (List.map (AV.int .i64) l) = true := AV.lowL_of_closed n m _ (int_closedL l)
theorem Typ.closed (t : Typ) : t.enc.closed = true := rfl
theorem Dirc.closed (d : Dirc) : d.enc.closed = true := by simp [Dirc.enc, AV.closed, AV.closedL, Mem.closedL]
theorem Dirc.closedL (l : List Dirc) : AV.closedL (l.map Dirc.enc) = true := closedL_map Dirc.closed l
theorem Par.closed (p : Par) : p.enc.closed = true := by simp [Par.enc, AV.closed, AV.closedL, Val.lv_closed, Val.mv_closed]
theorem Par.closedL (l : List Par) : AV.closedL (l.map Par.enc) = true := closedL_map Par.closed l
theorem Fld.closed (f : Fld) : f.enc.closed = true := by simp [Fld.enc, AV.closed, AV.closedL, Par.closedL, Dirc.closedL]
theorem Fld.closedL (l : List Fld) : AV.closedL (l.map Fld.enc) = true := closedL_map Fld.closed l
theorem Dfn.closed (d : Dfn) : d.enc.closed = true := by simp [Dfn.enc, AV.closed, AV.closedL, Par.closedL, Fld.closedL, str_closedL]
theorem Dfn.closedL (l : List Dfn) : AV.closedL (l.map Dfn.enc) = true := closedL_map Dfn.closed l
theorem Sch.closed (s : Sch) : s.enc.closed = true := by simp [Sch.enc, AV.closed, AV.closedL, Dfn.closedL]
theorem Spt.closed (x : Spt) : x.enc.closed = true := rfl
theorem Spt.closedL (l : List Spt) : AV.closedL (l.map Spt.enc) = true := closedL_map Spt.closed l
@[simp] theorem lowL_str (n m : Nat) (l : List _) : AV.lowL n m (List.map AV.str l) = true := AV.lowL_of_closed n m _ (str_closedL l)
@[simp] theorem lowL_Dirc (n m : Nat) (l : List _) : AV.lowL n m (List.map Dirc.enc l) = true := AV.lowL_of_closed n m _ (Dirc.closedL l)
@[simp] theorem lowL_Par (n m : Nat) (l : List _) : AV.lowL n m (List.map Par.enc l) = true := AV.lowL_of_closed n m _ (Par.closedL l)
@[simp] theorem lowL_Fld (n m : Nat) (l : List _) : AV.lowL n m (List.map Fld.enc l) = true := AV.lowL_of_closed n m _ (Fld.closedL l)
@[simp] theorem lowL_Dfn (n m : Nat) (l : List _) : AV.lowL n m (List.map Dfn.enc l) = true := AV.lowL_of_closed n m _ (Dfn.closedL l)
@[simp] theorem lowL_Spt (n m : Nat) (l : List _) : AV.lowL n m (List.map Spt.enc l) = true := AV.lowL_of_closed n m _ (Spt.closedL l)
@[simp] theorem lowL_mem (n m : Nat) (l : List _) : AV.lowL n m (List.map Mem.enc l) = true := AV.lowL_of_closed n m _ (Mem.closedL l)
@[simp] theorem lowL_val (n m : Nat) (l : List Val) : AV.lowL n m (List.map Val.enc l) = true := AV.lowL_of_closed n m _ (Val.closedL' l)
@[simp] theorem lowL_lv (n m : Nat) (v : Val) : AV.lowL n m v.lv = true := AV.lowL_of_closed n m _ v.lv_closed
@[simp] theorem lowL_mv (n m : Nat) (v : Val) : AV.lowL n m v.mv = true := AV.lowL_of_closed n m _ v.mv_closed
@[simp] theorem low_Typ (n m : Nat) (x : Typ) : (Typ.enc x).low n m = true := AV.low_of_closed n m _ (Typ.closed x)
@[simp] theorem low_Dirc (n m : Nat) (x : Dirc) : (Dirc.enc x).low n m = true := AV.low_of_closed n m _ (Dirc.closed x)
@[simp] theorem low_Par (n m : Nat) (x : Par) : (Par.enc x).low n m = true := AV.low_of_closed n m _ (Par.closed x)
@[simp] theorem low_Fld (n m : Nat) (x : Fld) : (Fld.enc x).low n m = true := AV.low_of_closed n m _ (Fld.closed x)
@[simp] theorem low_Dfn (n m : Nat) (x : Dfn) : (Dfn.enc x).low n m = true := AV.low_of_closed n m _ (Dfn.closed x)
@[simp] theorem low_Sch (n m : Nat) (x : Sch) : (Sch.enc x).low n m = true := AV.low_of_closed n m _ (Sch.closed x)
@[simp] theorem low_Spt (n m : Nat) (x : Spt) : (Spt.enc x).low n m = true := AV.low_of_closed n m _ (Spt.closed x)
@[simp] theorem low_Val (n m : Nat) (x : Val) : (Val.enc x).low n m = true := AV.low_of_closed n m _ (Val.closed x)
@[simp] theorem low_Mem (n m : Nat) (x : Mem) : (Mem.enc x).low n m = true := AV.low_of_closed n m _ (Mem.closed x)
theorem Typ.fits (t : Typ) : Av.fits true 3 t.enc = true := rfl
theorem Dirc.fits (d : Dirc) : Av.fits true 2 d.enc = true := rfl
theorem Dirc.fitsAll (l : List Dirc) : Av.fitsAll true 2 (l.map Dirc.enc) = true := fitsAll_map Dirc.fits l
theorem Par.fits (d : Par) : Av.fits true 10 d.enc = true := rfl
theorem Par.fitsAll (l : List Par) : Av.fitsAll true 10 (l.map Par.enc) = true := fitsAll_map Par.fits l
theorem Fld.fits (d : Fld) : Av.fits true 6 d.enc = true := rfl
theorem Fld.fitsAll (l : List Fld) : Av.fitsAll true 6 (l.map Fld.enc) = true := fitsAll_map Fld.fits l
theorem Dfn.fits (d : Dfn) : Av.fits true 6 d.enc = true := rfl
theorem Dfn.fitsAll (l : List Dfn) : Av.fitsAll true 6 (l.map Dfn.enc) = true := fitsAll_map Dfn.fits l
theorem Spt.fits (d : Spt) : Av.fits true 5 d.enc = true := rfl
theorem Spt.fitsAll (l : List Spt) : Av.fitsAll true 5 (l.map Spt.enc) = true := fitsAll_map Spt.fits l
theorem str_fitsAll (l : List Str) : Av.fitsAll false 1 (l.map AV.str) = true := fitsAll_map (fun _ => rfl) l
def Typ.size (t : Typ) : Nat := t.name.length + 4
def Dirc.size (d : Dirc) : Nat := d.name.length + sumSize Mem.size d.args + 3
def Par.size (p : Par) : Nat := p.name.length + p.t.size + p.d.size + 3
def Fld.size (f : Fld) : Nat := f.name.length + sumSize Par.size f.params + f.t.size + sumSize Dirc.size f.dirs + 4
def strsSize (l : List Str) : Nat := sumSize (fun s : Str => s.length + 1) l + 1
def Dfn.size (d : Dfn) : Nat := d.name.length + strsSize d.faces + sumSize Fld.size d.fields + strsSize d.parts + sumSize Par.size d.params + 5
def Sch.size (s : Sch) : Nat := sumSize Dfn.size s.defs + s.query.length + s.mutation.length + 4
def Dirc.ok (d : Dirc) : Prop := ∀ m ∈ d.args, m.ok
def Par.ok (p : Par) : Prop := p.d.ok
def Fld.ok (f : Fld) : Prop := (∀ p ∈ f.params, p.ok) ∧ ∀ d ∈ f.dirs, d.ok
def Dfn.ok (d : Dfn) : Prop := (∀ f ∈ d.fields, f.ok) ∧ ∀ p ∈ d.params, p.ok
def Sch.ok (s : Sch) : Prop := ∀ d ∈ s.defs, d.ok
theorem reads_bool' (n : Nat) : ReadN Tryz.prog n 4 false (fun x : Bool => .bool x) (fun _ => 1) (fun _ => True) := ReadN.bool Tryz.underlying4
theorem reads_strs : ∀ n : Nat, ReadN Tryz.prog n 49 false (fun l : List Str => .slice (l.map AV.str) .no) (fun l => sumSize (fun x : Str => x.length + 1) l + 1) (fun l => ∀ x ∈ l, True)
  | 0 => ReadN.zero
  | n + 1 => ReadN.slice Tryz.underlying49 (c := 1) (by kernel_rfl) (by decide) (reads_str n)
theorem reads_typ : ∀ n : Nat, ReadN Tryz.prog n 32 true Typ.enc Typ.size (fun _ => True)
  | 0 => ReadN.zero
  | n + 1 => (ReadN.struct Tryz.underlying32 (by kernel_rfl)
      (ReadF.cons (c := 1) rfl (by kernel_rfl) (one_cell fun _ => rfl) (reads_str n)
        (ReadF.cons (c := 1) rfl (by kernel_rfl) (one_cell fun _ => rfl) (reads_int n)
          (ReadF.cons (c := 1) rfl (by kernel_rfl) (one_cell fun _ => rfl) (reads_int n) ReadF.nil)))).map
      (fun x => (⟨x.1, x.2.1, x.2.2.1⟩ : Typ)) (fun _ => rfl) (fun x => by simp only [Typ.size]; omega) (fun x h => trivial)
theorem reads_dir : ∀ n : Nat, ReadN Tryz.prog n 95 true Dirc.enc Dirc.size Dirc.ok
  | 0 => ReadN.zero
  | n + 1 => (ReadN.struct Tryz.underlying95 (by kernel_rfl)
      (ReadF.cons (c := 1) rfl (by kernel_rfl) (one_cell fun _ => rfl) (reads_str n)
        (ReadF.cons (c := 1) rfl (by kernel_rfl) (one_cell fun _ => rfl) (reads_mems n) ReadF.nil))).map
      (fun x => (⟨x.1, x.2.1⟩ : Dirc)) (fun _ => rfl) (fun x => by simp only [Dirc.size]; omega) (fun x h => h.2.1)
theorem reads_dirs : ∀ n : Nat, ReadN Tryz.prog n 33 false (fun l => .slice (l.map Dirc.enc) .no) (fun l => sumSize Dirc.size l + 1) (fun l => ∀ x ∈ l, x.ok)
  | 0 => ReadN.zero
  | n + 1 => ReadN.slice Tryz.underlying33 (c := 2) (by kernel_rfl) (by decide) (reads_dir n)
theorem reads_par : ∀ n : Nat, ReadN Tryz.prog n 93 true Par.enc Par.size Par.ok
  | 0 => ReadN.zero
  | n + 1 => (ReadN.struct Tryz.underlying93 (by kernel_rfl)
      (ReadF.cons (c := 1) rfl (by kernel_rfl) (one_cell fun _ => rfl) (reads_str n)
        (ReadF.cons (c := 3) rfl (by kernel_rfl) (flat_cells fun _ => ⟨_, rfl⟩) (reads_typ n)
          (ReadF.cons (c := 1) rfl (by kernel_rfl) (one_cell fun _ => rfl) (reads_bool' n)
            (ReadF.cons (c := 5) rfl (by kernel_rfl) (flat_cells fun _ => ⟨_, rfl⟩) (reads_val n) ReadF.nil))))).map
      (fun x => (⟨x.1, x.2.1, x.2.2.1, x.2.2.2.1⟩ : Par)) (fun _ => rfl) (fun x => by simp only [Par.size]; omega) (fun x h => h.2.2.2.1)
theorem reads_pars : ∀ n : Nat, ReadN Tryz.prog n 30 false (fun l => .slice (l.map Par.enc) .no) (fun l => sumSize Par.size l + 1) (fun l => ∀ x ∈ l, x.ok)
  | 0 => ReadN.zero
  | n + 1 => ReadN.slice Tryz.underlying30 (c := 10) (by kernel_rfl) (by decide) (reads_par n)
theorem reads_fld : ∀ n : Nat, ReadN Tryz.prog n 35 true Fld.enc Fld.size Fld.ok
  | 0 => ReadN.zero
  | n + 1 => (ReadN.struct Tryz.underlying35 (by kernel_rfl)
      (ReadF.cons (c := 1) rfl (by kernel_rfl) (one_cell fun _ => rfl) (reads_str n)
        (ReadF.cons (c := 1) rfl (by kernel_rfl) (one_cell fun _ => rfl) (reads_pars n)
          (ReadF.cons (c := 3) rfl (by kernel_rfl) (flat_cells fun _ => ⟨_, rfl⟩) (reads_typ n)
            (ReadF.cons (c := 1) rfl (by kernel_rfl) (one_cell fun _ => rfl) (reads_dirs n) ReadF.nil))))).map
      (fun x => (⟨x.1, x.2.1, x.2.2.1, x.2.2.2.1⟩ : Fld)) (fun _ => rfl) (fun x => by simp only [Fld.size]; omega) (fun x h => ⟨h.2.1, h.2.2.2.1⟩)
theorem reads_flds : ∀ n : Nat, ReadN Tryz.prog n 50 false (fun l => .slice (l.map Fld.enc) .no) (fun l => sumSize Fld.size l + 1) (fun l => ∀ x ∈ l, x.ok)
  | 0 => ReadN.zero
  | n + 1 => ReadN.slice Tryz.underlying50 (c := 6) (by kernel_rfl) (by decide) (reads_fld n)
theorem reads_dfn : ∀ n : Nat, ReadN Tryz.prog n 52 true Dfn.enc Dfn.size Dfn.ok
  | 0 => ReadN.zero
  | n + 1 => (ReadN.struct Tryz.underlying52 (by kernel_rfl)
      (ReadF.cons (c := 1) rfl (by kernel_rfl) (one_cell fun _ => rfl) (reads_int n)
        (ReadF.cons (c := 1) rfl (by kernel_rfl) (one_cell fun _ => rfl) (reads_str n)
          (ReadF.cons (c := 1) rfl (by kernel_rfl) (one_cell fun _ => rfl) (reads_strs n)
            (ReadF.cons (c := 1) rfl (by kernel_rfl) (one_cell fun _ => rfl) (reads_flds n)
              (ReadF.cons (c := 1) rfl (by kernel_rfl) (one_cell fun _ => rfl) (reads_strs n)
                (ReadF.cons (c := 1) rfl (by kernel_rfl) (one_cell fun _ => rfl) (reads_pars n) ReadF.nil))))))).map
      (fun x => (⟨x.1, x.2.1, x.2.2.1, x.2.2.2.1, x.2.2.2.2.1, x.2.2.2.2.2.1⟩ : Dfn)) (fun _ => rfl) (fun x => by simp only [Dfn.size, strsSize]; omega) (fun x h => ⟨h.2.2.2.1, h.2.2.2.2.2.1⟩)
theorem reads_dfns : ∀ n : Nat, ReadN Tryz.prog n 22 false (fun l => .slice (l.map Dfn.enc) .no) (fun l => sumSize Dfn.size l + 1) (fun l => ∀ x ∈ l, x.ok)
  | 0 => ReadN.zero
  | n + 1 => ReadN.slice Tryz.underlying22 (c := 6) (by kernel_rfl) (by decide) (reads_dfn n)
theorem reads_sch : ∀ n : Nat, ReadN Tryz.prog n 24 true Sch.enc Sch.size Sch.ok
  | 0 => ReadN.zero
  | n + 1 => (ReadN.struct Tryz.underlying24 (by kernel_rfl)
      (ReadF.cons (c := 1) rfl (by kernel_rfl) (one_cell fun _ => rfl) (reads_dfns n)
        (ReadF.cons (c := 1) rfl (by kernel_rfl) (one_cell fun _ => rfl) (reads_str n)
          (ReadF.cons (c := 1) rfl (by kernel_rfl) (one_cell fun _ => rfl) (reads_str n) ReadF.nil)))).map
      (fun x => (⟨x.1, x.2.1, x.2.2.1⟩ : Sch)) (fun _ => rfl) (fun x => by simp only [Sch.size]; omega) (fun x h => h.1)
end Go.Proofs.YtgghkkeejagfkaaGreatDoor
namespace Go.Proofs.YtgghkkeejagfkaaGreatDoor
open Go Go.Av
attribute [local irreducible] HCode AOps PFn AFn Av.Step TStep
def digC (c : UInt8) : Bool := decide (48 ≤ c.toNat) && decide (c.toNat ≤ 57)
def letC (c : UInt8) : Bool := decide (97 ≤ c.toNat) && decide (c.toNat ≤ 122) || decide (65 ≤ c.toNat) && decide (c.toNat ≤ 90) || decide (c.toNat = 95)
theorem lDigit (c : UInt8) : PFn Tryz.prog 279 [.int .u8 (c.toNat : Int)] (.bool (digC c)) := by
  refine AFn.plain rfl rfl (AFn.enter [2] Tryz.func279 rfl rfl rfl rfl rfl (by decide) ?_)
  repeat' first | refine .s1 ?_ | (refine .cond rfl ?_ ?_ <;> intro hc) | (refine A.guard rfl ?_ ?_ <;> intro hc) | fail
  all_goals
    refine Fin.ret1 rfl (Weak.eq (congrArg AV.bool ?_))
    unfold digC; rw [Bool.eq_iff_iff]; simp at *; omega
theorem lLetter (c : UInt8) : PFn Tryz.prog 278 [.int .u8 (c.toNat : Int)] (.bool (letC c)) := by
  refine AFn.plain rfl rfl (AFn.enter [2] Tryz.func278 rfl rfl rfl rfl rfl (by decide) ?_)
  repeat' first | refine .s1 ?_ | (refine .cond rfl ?_ ?_ <;> intro hc) | (refine A.guard rfl ?_ ?_ <;> intro hc) | fail
  all_goals
    refine Fin.ret1 rfl (Weak.eq (congrArg AV.bool ?_))
    unfold letC; rw [Bool.eq_iff_iff]; simp at *; omega
theorem get_str {s : Str} {k : Nat} (h : k < s.length) : s[k]? = some s[k] := by simp [h]
def nmC : Bool → Str → Bool
  | _, [] => true
  | z, c :: r => (letC c || (!z && digC c)) && nmC false r
def nameB (s : Str) : Bool := nmC true s && decide (s ≠ [])
theorem nmC_drop {z : Bool} {s : Str} {k : Nat} (h : k < s.length) : nmC z (s.drop k) = ((letC s[k] || (!z && digC s[k])) && nmC false (s.drop (k + 1))) := by
  rw [List.drop_eq_getElem_cons h, nmC]
theorem lName (s : Str) (hs : s.length ≤ 9223372036854775806) : PFn Tryz.prog 249 [.str s] (.bool (nameB s)) := by
  refine AFn.plain rfl rfl (AFn.enter [2] Tryz.func249 rfl rfl rfl rfl rfl (by decide) ?_)
  refine .go ?_
  change HCode _ _ _ _ _ _ _
  refine HCode.loop (fun n σs σ => ∃ k : Nat, n = s.length - k ∧ k ≤ s.length ∧ nmC true s = nmC (k == 0) (s.drop k) ∧ σ = ⟨[], []⟩ ∧
    σs = [(6, .int .i64 k), (5, .int .i64 s.length), (0, .str s)])
    (s0 := [(6, .int .i64 (0 : Nat)), (5, .int .i64 s.length), (0, .str s)])
    ⟨rfl, rfl, rfl, trivial⟩ ⟨0, rfl, Nat.zero_le _, rfl, rfl, rfl⟩ ?_
  rintro n σs σ ⟨k, rfl, hk, hp, rfl, rfl⟩
  by_cases h1 : k < s.length
  · have d1 : decide ((k : Int) < (s.length : Int)) = true := by simp [h1]
    have x1 := get_str h1
    have hl := lLetter s[k]
    have hd := lDigit s[k]
    by_cases c1 : letC s[k] = true
    · have e1 : (!letC s[k]) = false := by rw [c1]; rfl
      repeat' first | refine .s1 ?_ | (refine .cond rfl ?_ ?_ <;> intro hc) | (refine A.guard rfl ?_ ?_ <;> intro hc) | refine A.index_s rfl rfl rfl rfl rfl (by assumption) ?_ | refine A.call rfl hl (WeakL.refl _) ?_ | refine A.call rfl hd (WeakL.refl _) ?_ | fail
      refine ⟨s.length - (k + 1), by omega, [(6, .int .i64 ((k + 1 : Nat) : Int)), (5, .int .i64 s.length), (0, .str s)], ⟨rfl, rfl, rfl, trivial⟩, by simp [belowS, AV.low], rfl, k + 1, rfl, by omega, ?_, rfl, rfl⟩
      rw [hp, nmC_drop h1, c1]; rfl
    · have e1 : (!letC s[k]) = true := by simpa using c1
      by_cases c2 : k = 0
      · have e2 : ((k : Int) == 0) = true := by simp [c2]
        repeat' first | refine .s1 ?_ | (refine .cond rfl ?_ ?_ <;> intro hc) | (refine A.guard rfl ?_ ?_ <;> intro hc) | refine A.index_s rfl rfl rfl rfl rfl (by assumption) ?_ | refine A.call rfl hl (WeakL.refl _) ?_ | refine A.call rfl hd (WeakL.refl _) ?_ | fail
        refine Fin.ret1 rfl (Weak.eq (congrArg AV.bool ?_))
        unfold nameB
        rw [hp, nmC_drop h1]; subst c2; simp [c1]
      · have e2 : ((k : Int) == 0) = false := by simp [c2]
        have e3 : (k == 0) = false := by simp [c2]
        by_cases c3 : digC s[k] = true
        · have e4 : (!digC s[k]) = false := by rw [c3]; rfl
          repeat' first | refine .s1 ?_ | (refine .cond rfl ?_ ?_ <;> intro hc) | (refine A.guard rfl ?_ ?_ <;> intro hc) | refine A.index_s rfl rfl rfl rfl rfl (by assumption) ?_ | refine A.call rfl hl (WeakL.refl _) ?_ | refine A.call rfl hd (WeakL.refl _) ?_ | fail
          refine ⟨s.length - (k + 1), by omega, [(6, .int .i64 ((k + 1 : Nat) : Int)), (5, .int .i64 s.length), (0, .str s)], ⟨rfl, rfl, rfl, trivial⟩, by simp [belowS, AV.low], rfl, k + 1, rfl, by omega, ?_, rfl, rfl⟩
          rw [hp, nmC_drop h1, e3, c3]; simp
        · have e4 : (!digC s[k]) = true := by simpa using c3
          repeat' first | refine .s1 ?_ | (refine .cond rfl ?_ ?_ <;> intro hc) | (refine A.guard rfl ?_ ?_ <;> intro hc) | refine A.index_s rfl rfl rfl rfl rfl (by assumption) ?_ | refine A.call rfl hl (WeakL.refl _) ?_ | refine A.call rfl hd (WeakL.refl _) ?_ | fail
          refine Fin.ret1 rfl (Weak.eq (congrArg AV.bool ?_))
          unfold nameB
          rw [hp, nmC_drop h1, e3]; simp [c1, c3]
  · have d1 : decide ((k : Int) < (s.length : Int)) = false := by simp; omega
    refine .go ?_
    refine Fin.ret1 rfl (Weak.eq (congrArg AV.bool ?_))
    unfold nameB
    rw [hp, List.drop_eq_nil_of_le (by omega), nmC]
    cases s <;> simp
def digs : Str → Nat
  | [] => 0
  | c :: s => if digC c = true then digs s + 1 else 0
theorem digs_le : ∀ s : Str, digs s ≤ s.length
  | [] => Nat.le_refl _
  | c :: s => by
    have := digs_le s
    unfold digs; split <;> simp <;> omega
theorem digs_drop {s : Str} {k : Nat} (h : k < s.length) : digs (s.drop k) = if digC s[k] = true then digs (s.drop (k + 1)) + 1 else 0 := by
  rw [List.drop_eq_getElem_cons h, digs]
theorem tDigits (s : Str) (hs : s.length ≤ 9223372036854775806) : PFn Tryz.prog 356 [.str s] (.int .i64 (digs s)) := by
  refine AFn.plain rfl rfl (AFn.enter [2] Tryz.func356 rfl rfl rfl rfl rfl (by decide) ?_)
  refine .go ?_
  change HCode _ _ _ _ _ _ _
  refine HCode.loop (fun n σs σ => ∃ k : Nat, n = s.length - k ∧ k ≤ s.length ∧ digs s = k + digs (s.drop k) ∧ σ = ⟨[], []⟩ ∧ σs = [(3, .int .i64 k), (0, .str s)])
    (s0 := [(3, .int .i64 (0 : Nat)), (0, .str s)]) ⟨rfl, rfl, trivial⟩ ⟨0, rfl, Nat.zero_le _, by simp, rfl, rfl⟩ ?_
  rintro n σs σ ⟨k, rfl, hk, hp, rfl, rfl⟩
  by_cases h1 : k < s.length
  · have d1 : decide ((k : Int) < (s.length : Int)) = true := by simp [h1]
    have x1 := get_str h1
    have hd := lDigit s[k]
    by_cases c3 : digC s[k] = true
    · repeat' first | refine .s1 ?_ | (refine .cond rfl ?_ ?_ <;> intro hc) | (refine A.guard rfl ?_ ?_ <;> intro hc) | refine A.index_s rfl rfl rfl rfl rfl (by assumption) ?_ | refine A.call rfl hd (WeakL.refl _) ?_ | fail
      refine ⟨s.length - (k + 1), by omega, [(3, .int .i64 ((k + 1 : Nat) : Int)), (0, .str s)], ⟨rfl, rfl, trivial⟩, by simp [belowS, AV.low], rfl, k + 1, rfl, by omega, ?_, rfl, rfl⟩
      rw [hp, digs_drop h1, if_pos c3]; omega
    · have c4 : digC s[k] = false := by simpa using c3
      repeat' first | refine .s1 ?_ | (refine .cond rfl ?_ ?_ <;> intro hc) | (refine A.guard rfl ?_ ?_ <;> intro hc) | refine A.index_s rfl rfl rfl rfl rfl (by assumption) ?_ | refine A.call rfl hd (WeakL.refl _) ?_ | fail
      refine Fin.ret1 rfl (Weak.eq (congrArg (AV.int .i64) ?_))
      rw [hp, digs_drop h1, if_neg c3]; simp
  · have d1 : decide ((k : Int) < (s.length : Int)) = false := by simp; omega
    refine .go ?_
    refine Fin.ret1 rfl (Weak.eq (congrArg (AV.int .i64) ?_))
    rw [hp, List.drop_eq_nil_of_le (by omega), digs]; simp
def pfx (p s : Str) : Bool := decide (p.length ≤ s.length) && (s.take p.length == p)
theorem slPrefix (s p : Str) : PFn Tryz.prog 224 [.str s, .str p] (.bool (pfx p s)) := by
  refine AFn.plain rfl rfl (AFn.enter [4] Tryz.func224 rfl rfl rfl rfl rfl (by decide) ?_)
  by_cases h1 : p.length ≤ s.length
  · have d1 : decide ((s.length : Int) ≥ (p.length : Int)) = true := by simp; omega
    have d2 : decide ((p.length : Int) ≤ (s.length : Int)) = true := by simp; omega
    repeat' first | refine .s1 ?_ | (refine .cond rfl ?_ ?_ <;> intro hc) | (refine A.guard rfl ?_ ?_ <;> intro hc) | refine A.slice_s 0 p.length rfl rfl rfl rfl rfl rfl rfl (by omega) (by omega) rfl ?_ | fail
    refine Fin.ret1 rfl (Weak.eq (congrArg AV.bool ?_))
    simp [pfx, h1]
  · have d1 : decide ((s.length : Int) ≥ (p.length : Int)) = false := by simp; omega
    have d2 : decide ((p.length : Int) ≤ (s.length : Int)) = false := by simp; omega
    refine .go ?_
    refine Fin.ret1 rfl (Weak.eq (congrArg AV.bool ?_))
    simp [pfx, h1]
theorem hasPrefix (s p : Str) : PFn Tryz.prog 175 [.str s, .str p] (.bool (pfx p s)) := by
  have h := slPrefix s p
  refine AFn.plain rfl rfl (AFn.enter [4] Tryz.func175 rfl rfl rfl rfl rfl (by decide) ?_)
  repeat' first | refine .s1 ?_ | (refine .cond rfl ?_ ?_ <;> intro hc) | (refine A.guard rfl ?_ ?_ <;> intro hc) | refine A.call rfl h (WeakL.refl _) ?_ | fail
  exact Fin.ret1 rfl (Weak.refl _)
def wholeAt (s : Str) (n : Nat) : Nat := if digs (s.drop n) = 0 then 0 else if s[n]? = some 48 then n + 1 else n + digs (s.drop n)
def wholeN (s : Str) : Nat := if pfx [45] s = true then wholeAt s 1 else wholeAt s 0
theorem wholeAt_le {s : Str} {n : Nat} (h : n ≤ s.length) : wholeAt s n ≤ s.length := by
  have := digs_le (s.drop n)
  rw [List.length_drop] at this
  unfold wholeAt
  split
  · omega
  · split <;> omega
theorem pfx1 {c : UInt8} {s : Str} (h : pfx [c] s = true) : 1 ≤ s.length := by
  simp only [pfx, Bool.and_eq_true, decide_eq_true_eq] at h
  exact h.1
theorem wholeN_le (s : Str) : wholeN s ≤ s.length := by
  unfold wholeN
  split
  · exact wholeAt_le (pfx1 (by assumption))
  · exact wholeAt_le (Nat.zero_le _)
theorem tWhole (s : Str) (hs : s.length ≤ 9223372036854775806) : PFn Tryz.prog 355 [.str s] (.int .i64 (wholeN s)) := by
  refine AFn.plain rfl rfl (AFn.enter [2] Tryz.func355 rfl rfl rfl rfl rfl (by decide) ?_)
  have hp := hasPrefix s [45]
  by_cases c1 : pfx [45] s = true
  · have hn : 1 ≤ s.length := pfx1 c1
    have hd := tDigits (s.drop 1) (by rw [List.length_drop]; omega)
    have hle := digs_le (s.drop 1)
    rw [List.length_drop] at hle
    by_cases c2 : digs (s.drop 1) = 0
    · have e2 : ((digs (s.drop 1) : Int) == 0) = true := by rw [c2]; rfl
      repeat' first | refine .s1 ?_ | (refine .cond rfl ?_ ?_ <;> intro hc) | (refine A.guard rfl ?_ ?_ <;> intro hc) | refine A.call rfl hp (WeakL.refl _) ?_ | refine A.slice_s 1 s.length rfl rfl rfl rfl rfl rfl rfl (by omega) (by omega) (by rw [List.take_length]) ?_ | refine A.call rfl hd (WeakL.refl _) ?_ | fail
      refine Fin.ret1 rfl (Weak.eq (congrArg (AV.int .i64) ?_))
      rw [wholeN, if_pos c1, wholeAt, if_pos c2]; rfl
    · have e2 : ((digs (s.drop 1) : Int) == 0) = false := beq_eq_false_iff_ne.2 (by omega)
      have hlt : 1 < s.length := by omega
      have x1 := get_str hlt
      by_cases c3 : s[1] = 48
      · have e3 : ((s[1].toNat : Int) == 48) = true := by rw [c3]; rfl
        repeat' first | refine .s1 ?_ | (refine .cond rfl ?_ ?_ <;> intro hc) | (refine A.guard rfl ?_ ?_ <;> intro hc) | refine A.call rfl hp (WeakL.refl _) ?_ | refine A.slice_s 1 s.length rfl rfl rfl rfl rfl rfl rfl (by omega) (by omega) (by rw [List.take_length]) ?_ | refine A.call rfl hd (WeakL.refl _) ?_ | refine A.index_s (j := 1) rfl rfl rfl rfl rfl (by assumption) ?_ | fail
        refine Fin.ret1 rfl (Weak.eq (congrArg (AV.int .i64) ?_))
        rw [wholeN, if_pos c1, wholeAt, if_neg c2, x1, if_pos (congrArg some c3)]; rfl
      · have e3 : ((s[1].toNat : Int) == 48) = false := by
          have : s[1].toNat ≠ 48 := fun h => c3 (UInt8.toNat_inj.1 (h.trans rfl))
          simp; omega
        repeat' first | refine .s1 ?_ | (refine .cond rfl ?_ ?_ <;> intro hc) | (refine A.guard rfl ?_ ?_ <;> intro hc) | refine A.call rfl hp (WeakL.refl _) ?_ | refine A.slice_s 1 s.length rfl rfl rfl rfl rfl rfl rfl (by omega) (by omega) (by rw [List.take_length]) ?_ | refine A.call rfl hd (WeakL.refl _) ?_ | refine A.index_s (j := 1) rfl rfl rfl rfl rfl (by assumption) ?_ | fail
        refine Fin.ret1 rfl (Weak.eq (congrArg (AV.int .i64) ?_))
        rw [wholeN, if_pos c1, wholeAt, if_neg c2, x1, if_neg (fun h => c3 (Option.some.inj h))]; omega
  · have c1' : pfx [45] s = false := by simpa using c1
    have hd := tDigits s hs
    have hle := digs_le s
    by_cases c2 : digs s = 0
    · have e2 : ((digs s : Int) == 0) = true := by simp [c2]
      repeat' first | refine .s1 ?_ | (refine .cond rfl ?_ ?_ <;> intro hc) | (refine A.guard rfl ?_ ?_ <;> intro hc) | refine A.call rfl hp (WeakL.refl _) ?_ | refine A.slice_s 0 s.length rfl rfl rfl rfl rfl rfl rfl (by omega) (by omega) (by rw [List.take_length, List.drop_zero]) ?_ | refine A.call rfl hd (WeakL.refl _) ?_ | fail
      refine Fin.ret1 rfl (Weak.eq (congrArg (AV.int .i64) ?_))
      rw [wholeN, if_neg c1, wholeAt, List.drop_zero, if_pos c2]; rfl
    · have e2 : ((digs s : Int) == 0) = false := by simp [c2]
      have hlt : 0 < s.length := by omega
      have x1 := get_str hlt
      by_cases c3 : s[0] = 48
      · have e3 : ((s[0].toNat : Int) == 48) = true := by rw [c3]; rfl
        repeat' first | refine .s1 ?_ | (refine .cond rfl ?_ ?_ <;> intro hc) | (refine A.guard rfl ?_ ?_ <;> intro hc) | refine A.call rfl hp (WeakL.refl _) ?_ | refine A.slice_s 0 s.length rfl rfl rfl rfl rfl rfl rfl (by omega) (by omega) (by rw [List.take_length, List.drop_zero]) ?_ | refine A.call rfl hd (WeakL.refl _) ?_ | refine A.index_s (j := 0) rfl rfl rfl rfl rfl (by assumption) ?_ | fail
        refine Fin.ret1 rfl (Weak.eq (congrArg (AV.int .i64) ?_))
        rw [wholeN, if_neg c1, wholeAt, List.drop_zero, if_neg c2, x1, if_pos (congrArg some c3)]; rfl
      · have e3 : ((s[0].toNat : Int) == 48) = false := by
          have : s[0].toNat ≠ 48 := fun h => c3 (UInt8.toNat_inj.1 (h.trans rfl))
          simp; omega
        repeat' first | refine .s1 ?_ | (refine .cond rfl ?_ ?_ <;> intro hc) | (refine A.guard rfl ?_ ?_ <;> intro hc) | refine A.call rfl hp (WeakL.refl _) ?_ | refine A.slice_s 0 s.length rfl rfl rfl rfl rfl rfl rfl (by omega) (by omega) (by rw [List.take_length, List.drop_zero]) ?_ | refine A.call rfl hd (WeakL.refl _) ?_ | refine A.index_s (j := 0) rfl rfl rfl rfl rfl (by assumption) ?_ | fail
        refine Fin.ret1 rfl (Weak.eq (congrArg (AV.int .i64) ?_))
        rw [wholeN, if_neg c1, wholeAt, List.drop_zero, if_neg c2, x1, if_neg (fun h => c3 (Option.some.inj h))]; omega
def expAt (s : Str) (n : Nat) : Nat := if digs (s.drop n) = 0 then 0 else n + digs (s.drop n)
def powN (s : Str) : Nat :=
  if (s.getD 0 0).toNat = 101 ∨ (s.getD 0 0).toNat = 69 then
    (if 1 < s.length ∧ ((s.getD 1 0).toNat = 43 ∨ (s.getD 1 0).toNat = 45) then expAt s 2 else expAt s 1)
  else 0
theorem expAt_le {s : Str} {n : Nat} (h : n ≤ s.length) : expAt s n ≤ s.length := by
  have := digs_le (s.drop n)
  rw [List.length_drop] at this
  unfold expAt
  split <;> omega
theorem powN_le (s : Str) : powN s ≤ s.length := by
  unfold powN
  split
  · have h : 1 ≤ s.length := by
      cases s with
      | nil => simp_all
      | cons c s => simp
    split
    · exact expAt_le (by omega)
    · exact expAt_le h
  · omega
theorem getD_of {s : Str} {k : Nat} (h : k < s.length) : s.getD k 0 = s[k] := by simp [List.getD, h]
theorem tPower (s : Str) (hs : s.length ≤ 9223372036854775806) : PFn Tryz.prog 357 [.str s] (.int .i64 (powN s)) := by
  refine AFn.plain rfl rfl (AFn.enter [2] Tryz.func357 rfl rfl rfl rfl rfl (by decide) ?_)
  by_cases h0 : s.length = 0
  · obtain rfl := List.eq_nil_of_length_eq_zero h0
    refine .go ?_
    refine Fin.ret1 rfl (Weak.eq (congrArg (AV.int .i64) ?_))
    rfl
  · have h0' : 0 < s.length := by omega
    have hne : (s == []) = false := by cases s <;> simp_all
    have x0 := get_str h0'
    have hd1 := tDigits (s.drop 1) (by rw [List.length_drop]; omega)
    have hle1 := digs_le (s.drop 1)
    rw [List.length_drop] at hle1
    have g0 := getD_of h0'
    by_cases h1 : 1 < s.length
    · have x1 := get_str h1
      have g1 := getD_of h1
      have d1 : decide ((s.length : Int) > 1) = true := by simp; omega
      have hd2 := tDigits (s.drop 2) (by rw [List.length_drop]; omega)
      have hle2 := digs_le (s.drop 2)
      rw [List.length_drop] at hle2
      repeat' first | refine .s1 ?_ | (refine .cond rfl ?_ ?_ <;> intro hc) | (refine A.guard rfl ?_ ?_ <;> intro hc) | refine A.index_s (j := 0) rfl rfl rfl rfl rfl (by assumption) ?_ | refine A.index_s (j := 1) rfl rfl rfl rfl rfl (by assumption) ?_ | refine A.slice_s 1 s.length rfl rfl rfl rfl rfl rfl rfl (by omega) (by omega) (by rw [List.take_length]) ?_ | refine A.slice_s 2 s.length rfl rfl rfl rfl rfl rfl rfl (by omega) (by omega) (by rw [List.take_length]) ?_ | refine A.call rfl hd1 (WeakL.refl _) ?_ | refine A.call rfl hd2 (WeakL.refl _) ?_ | fail
      all_goals
        refine Fin.ret1 rfl (Weak.eq (congrArg (AV.int .i64) ?_))
        unfold powN expAt
        rw [g0, g1]
        simp [-List.drop_one] at *
        (repeat' split) <;> omega
    · have d1 : decide ((s.length : Int) > 1) = false := by simp; omega
      repeat' first | refine .s1 ?_ | (refine .cond rfl ?_ ?_ <;> intro hc) | (refine A.guard rfl ?_ ?_ <;> intro hc) | refine A.index_s (j := 0) rfl rfl rfl rfl rfl (by assumption) ?_ | refine A.slice_s 1 s.length rfl rfl rfl rfl rfl rfl rfl (by omega) (by omega) (by rw [List.take_length]) ?_ | refine A.call rfl hd1 (WeakL.refl _) ?_ | fail
      all_goals
        refine Fin.ret1 rfl (Weak.eq (congrArg (AV.int .i64) ?_))
        unfold powN expAt
        rw [g0]
        simp [-List.drop_one] at *
        (repeat' split) <;> omega
end Go.Proofs.YtgghkkeejagfkaaGreatDoor
