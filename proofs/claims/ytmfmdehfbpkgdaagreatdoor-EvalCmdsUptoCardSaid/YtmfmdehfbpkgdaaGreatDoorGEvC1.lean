/-
  Contracts and plain facts for a law, joined.
-/
import Derived.Test.YtmfmdehfbpkgdaaGreatDoorTable
import Derived.Test.YtmfmdehfbpkgdaaGreatDoorAvLaw
import Derived.Test.YtmfmdehfbpkgdaaGreatDoorAvGo
import Derived.Test.YtmfmdehfbpkgdaaGreatDoorAvVec5
import Derived.Test.YtmfmdehfbpkgdaaGreatDoorAvRen4
set_option maxRecDepth 100000
set_option maxHeartbeats 16000000
set_option linter.unusedVariables false
set_option linter.unusedSimpArgs false
set_option linter.unusedSectionVars false
namespace Go.Proofs.YtmfmdehfbpkgdaaGreatDoor
open Go Go.Av
abbrev Str := List UInt8
theorem closedL_map {α : Type} {f : α → AV} (h : ∀ x, (f x).closed = true) : ∀ l : List α, AV.closedL (l.map f) = true
  | [] => rfl
  | x :: l => by simp [AV.closedL, h x, closedL_map h l]
theorem reads_str (n : Nat) : ReadN Tryz.prog n 9 false (fun x : Str => .str x) (fun x => x.length + 1) (fun _ => True) := ReadN.string Tryz.underlying9
theorem reads_int (n : Nat) : ReadN Tryz.prog n 3 false (fun x : Int => .int .i64 x) (fun _ => 1) (fun x => (Lit.int .i64 x).wf = true) := ReadN.int Tryz.underlying3
mutual
inductive Val where
  | mk (kind n : Int) (s : Str) (l : List Val) (m : List Mem)
inductive Mem where
  | mk (name : Str) (v : Val)
end
def Val.kind : Val → Int
  | .mk k _ _ _ _ => k
def Val.n : Val → Int
  | .mk _ n _ _ _ => n
def Val.s : Val → Str
  | .mk _ _ s _ _ => s
def Val.l : Val → List Val
  | .mk _ _ _ l _ => l
def Val.m : Val → List Mem
  | .mk _ _ _ _ m => m
def Mem.name : Mem → Str
  | .mk n _ => n
def Mem.v : Mem → Val
  | .mk _ v => v
mutual
def Val.lv : Val → List AV
  | .mk _ _ _ l _ => Val.goL l
def Val.mv : Val → List AV
  | .mk _ _ _ _ m => Val.goM m
def Val.goL : List Val → List AV
  | [] => []
  | v :: l => .agg [.int .i64 v.kind, .int .i64 v.n, .str v.s, .slice (Val.lv v) .no, .slice (Val.mv v) .no] :: Val.goL l
def Val.goM : List Mem → List AV
  | [] => []
  | .mk name v :: l => .agg [.str name, .int .i64 v.kind, .int .i64 v.n, .str v.s, .slice (Val.lv v) .no, .slice (Val.mv v) .no] :: Val.goM l
end
def Val.enc (v : Val) : AV := .agg [.int .i64 v.kind, .int .i64 v.n, .str v.s, .slice v.lv .no, .slice v.mv .no]
def Mem.enc (m : Mem) : AV := .agg [.str m.name, .int .i64 m.v.kind, .int .i64 m.v.n, .str m.v.s, .slice m.v.lv .no, .slice m.v.mv .no]
theorem Val.goL_eq : ∀ l : List Val, Val.goL l = l.map Val.enc
  | [] => by simp [Val.goL]
  | v :: l => by rw [Val.goL, Val.goL_eq l]; rfl
theorem Val.goM_eq : ∀ l : List Mem, Val.goM l = l.map Mem.enc
  | [] => by simp [Val.goM]
  | .mk n v :: l => by rw [Val.goM, Val.goM_eq l]; rfl
theorem Val.lv_eq (v : Val) : v.lv = v.l.map Val.enc := by cases v; rw [Val.lv, Val.goL_eq]; rfl
theorem Val.mv_eq (v : Val) : v.mv = v.m.map Mem.enc := by cases v; rw [Val.mv, Val.goM_eq]; rfl
theorem Val.lv_len (v : Val) : v.lv.length = v.l.length := by rw [Val.lv_eq, List.length_map]
theorem Val.mv_len (v : Val) : v.mv.length = v.m.length := by rw [Val.mv_eq, List.length_map]
theorem Val.lv_get {v : Val} {k : Nat} (h : k < v.l.length) : v.lv[k]? = some v.l[k].enc := by rw [Val.lv_eq]; simp [h]
theorem Val.mv_get {v : Val} {k : Nat} (h : k < v.m.length) : v.mv[k]? = some v.m[k].enc := by rw [Val.mv_eq]; simp [h]
mutual
theorem Val.closed : ∀ v : Val, v.enc.closed = true
  | .mk k n s l m => by
    simp only [Val.enc, AV.closed, AV.closedL, Bool.and_true, Bool.true_and]
    rw [Val.lv, Val.mv, Val.closedL l, Val.closedM m]
    rfl
theorem Val.closedL : ∀ l : List Val, AV.closedL (Val.goL l) = true
  | [] => by simp [Val.goL, AV.closedL]
  | v :: l => by
    have h1 := Val.closed v
    have h2 := Val.closedL l
    rw [Val.goL, AV.closedL, h2, Bool.and_true]
    exact h1
theorem Val.closedM : ∀ l : List Mem, AV.closedL (Val.goM l) = true
  | [] => by simp [Val.goM, AV.closedL]
  | .mk n v :: l => by
    have h1 := Val.closed v
    have h2 := Val.closedM l
    rw [Val.goM, AV.closedL, h2, Bool.and_true]
    simpa only [Val.enc, AV.closed, AV.closedL, Bool.and_true, Bool.true_and] using h1
end
theorem Val.lv_closed (v : Val) : AV.closedL v.lv = true := by cases v; rw [Val.lv]; exact Val.closedL _
theorem Val.mv_closed (v : Val) : AV.closedL v.mv = true := by cases v; rw [Val.mv]; exact Val.closedM _
theorem Mem.closed (m : Mem) : m.enc.closed = true := by
  simp only [Mem.enc, AV.closed, AV.closedL, Val.lv_closed, Val.mv_closed]; rfl
theorem Mem.fits (m : Mem) : Av.fits true 6 m.enc = true := rfl
mutual
def Val.size : Val → Nat
  | .mk _ _ s l m => s.length + Val.sizeL l + Val.sizeM m + 6
def Val.sizeL : List Val → Nat
  | [] => 0
  | v :: l => Val.size v + Val.sizeL l
def Val.sizeM : List Mem → Nat
  | [] => 0
  | .mk n v :: l => n.length + 2 + Val.size v + Val.sizeM l
end
def Mem.size (m : Mem) : Nat := m.name.length + 2 + m.v.size
theorem Val.sizeL_eq : ∀ l : List Val, Val.sizeL l = sumSize Val.size l
  | [] => by simp [Val.sizeL, sumSize]
  | v :: l => by rw [Val.sizeL, sumSize, Val.sizeL_eq l]
theorem Val.sizeM_eq : ∀ l : List Mem, Val.sizeM l = sumSize Mem.size l
  | [] => by simp [Val.sizeM, sumSize]
  | .mk n v :: l => by rw [Val.sizeM, sumSize, Val.sizeM_eq l]; rfl
theorem Val.size_eq (v : Val) : v.size = v.s.length + sumSize Val.size v.l + sumSize Mem.size v.m + 6 := by
  cases v; rw [Val.size, Val.sizeL_eq, Val.sizeM_eq]; rfl
theorem Val.size_pos (v : Val) : 1 ≤ v.size := by rw [Val.size_eq]; omega
theorem Mem.size_pos (m : Mem) : 1 ≤ m.size := by unfold Mem.size; omega
theorem Val.size_l {v : Val} {k : Nat} (h : k < v.l.length) : v.l[k].size < v.size := by
  have := sumSize_mem (size := Val.size) (List.getElem_mem h)
  rw [v.size_eq]; omega
theorem Val.size_m {v : Val} {k : Nat} (h : k < v.m.length) : v.m[k].v.size < v.size := by
  have := sumSize_mem (size := Mem.size) (List.getElem_mem h)
  have h2 : v.m[k].size = v.m[k].name.length + 2 + v.m[k].v.size := rfl
  rw [v.size_eq]; omega
theorem Val.l_len (v : Val) : v.l.length ≤ v.size := by
  have := sumSize_length Val.size_pos v.l
  rw [v.size_eq]; omega
theorem Val.m_len (v : Val) : v.m.length ≤ v.size := by
  have := sumSize_length Mem.size_pos v.m
  rw [v.size_eq]; omega
mutual
def Val.ok : Val → Prop
  | .mk k n _ l m => (Lit.int .i64 k).wf = true ∧ (Lit.int .i64 n).wf = true ∧ Val.okL l ∧ Val.okM m
def Val.okL : List Val → Prop
  | [] => True
  | v :: l => Val.ok v ∧ Val.okL l
def Val.okM : List Mem → Prop
  | [] => True
  | .mk _ v :: l => Val.ok v ∧ Val.okM l
end
def Mem.ok (m : Mem) : Prop := m.v.ok
theorem Val.okL_of : ∀ {l : List Val}, (∀ x ∈ l, x.ok) → Val.okL l
  | [], _ => by rw [Val.okL]; trivial
  | v :: l, h => by rw [Val.okL]; exact ⟨h v (by simp), Val.okL_of fun x hx => h x (by simp [hx])⟩
theorem Val.okM_of : ∀ {l : List Mem}, (∀ x ∈ l, x.ok) → Val.okM l
  | [], _ => by rw [Val.okM]; trivial
  | .mk n v :: l, h => by rw [Val.okM]; exact ⟨h (.mk n v) (by simp), Val.okM_of fun x hx => h x (by simp [hx])⟩
theorem reads_i64 (n : Nat) : ReadN Tryz.prog n 2 false (fun x : Int => .int .i64 x) (fun _ => 1) (fun x => (Lit.int .i64 x).wf = true) := ReadN.int Tryz.underlying2
theorem ReadN.zero {P : Program} {t : TypeId} {agg : Bool} {α : Type} {enc : α → AV} {size : α → Nat} {ok : α → Prop} : ReadN P 0 t agg enc size ok := fun _ _ _ fuel _ _ _ h1 h2 => by
  cases fuel with
  | zero => simp [DataW.trod] at h2
  | succ m => omega
theorem reads_all : ∀ n : Nat, ReadN Tryz.prog n 38 true Val.enc Val.size Val.ok ∧ ReadN Tryz.prog n 36 false (fun l => .slice (l.map Val.enc) .no) (fun l => sumSize Val.size l + 1) (fun l => ∀ x ∈ l, x.ok) ∧
    ReadN Tryz.prog n 54 true Mem.enc Mem.size Mem.ok ∧ ReadN Tryz.prog n 33 false (fun l => .slice (l.map Mem.enc) .no) (fun l => sumSize Mem.size l + 1) (fun l => ∀ x ∈ l, x.ok)
  | 0 => ⟨ReadN.zero, ReadN.zero, ReadN.zero, ReadN.zero⟩
  | n + 1 => by
    obtain ⟨h1, h2, h3, h4⟩ := reads_all n
    refine ⟨?_, ReadN.slice Tryz.underlying36 (c := 5) (by kernel_rfl) (by decide) h1, ?_, ReadN.slice Tryz.underlying33 (c := 6) (by kernel_rfl) (by decide) h3⟩
    · refine (ReadN.struct Tryz.underlying38 (by kernel_rfl)
        (ReadF.cons (c := 1) rfl (by kernel_rfl) (one_cell fun _ => rfl) (reads_int n)
          (ReadF.cons (c := 1) rfl (by kernel_rfl) (one_cell fun _ => rfl) (reads_i64 n)
            (ReadF.cons (c := 1) rfl (by kernel_rfl) (one_cell fun _ => rfl) (reads_str n)
              (ReadF.cons (c := 1) rfl (by kernel_rfl) (one_cell fun _ => rfl) h2
                (ReadF.cons (c := 1) rfl (by kernel_rfl) (one_cell fun _ => rfl) h4 ReadF.nil)))))).map
        (fun x => Val.mk x.1 x.2.1 x.2.2.1 x.2.2.2.1 x.2.2.2.2.1) (fun x => ?_) (fun x => ?_) (fun x h => ?_)
      · simp only [Val.enc, Val.lv, Val.mv, Val.goL_eq, Val.goM_eq]; rfl
      · simp only [Val.size, Val.sizeL_eq, Val.sizeM_eq]; omega
      · rw [Val.ok]; exact ⟨h.1, h.2.1, Val.okL_of h.2.2.2.1, Val.okM_of h.2.2.2.2.1⟩
    · refine (ReadN.struct Tryz.underlying54 (by kernel_rfl)
        (ReadF.cons (c := 1) rfl (by kernel_rfl) (one_cell fun _ => rfl) (reads_str n)
          (ReadF.cons (c := 5) rfl (by kernel_rfl) (flat_cells fun _ => ⟨_, rfl⟩) h1 ReadF.nil))).map
        (fun x => Mem.mk x.1 x.2.1) (fun x => ?_) (fun x => ?_) (fun x h => h.2.1)
      · rfl
      · show Mem.size _ ≤ _; unfold Mem.size; simp only [Mem.name, Mem.v]; omega
theorem reads_val (n : Nat) : ReadN Tryz.prog n 38 true Val.enc Val.size Val.ok := (reads_all n).1
theorem reads_mems (n : Nat) : ReadN Tryz.prog n 33 false (fun l => .slice (l.map Mem.enc) .no) (fun l => sumSize Mem.size l + 1) (fun l => ∀ x ∈ l, x.ok) := (reads_all n).2.2.2
mutual
def sameV : Val → Val → Bool
  | .mk k n s l m, .mk k' n' s' l' m' => k == k' && n == n' && s == s' && sameL l l' && sameM m m'
def sameL : List Val → List Val → Bool
  | [], [] => true
  | a :: l, b :: l' => sameV a b && sameL l l'
  | _, _ => false
def sameM : List Mem → List Mem → Bool
  | [], [] => true
  | .mk n a :: l, .mk n' b :: l' => n == n' && sameV a b && sameM l l'
  | _, _ => false
end
theorem okL_mem : ∀ {l : List Val} {x : Val}, Val.okL l → x ∈ l → x.ok
  | v :: l, x, h, hx => by
    rw [Val.okL] at h
    cases hx with
    | head => exact h.1
    | tail _ hx => exact okL_mem h.2 hx
theorem Val.ok_l {v : Val} (h : v.ok) {x : Val} (hx : x ∈ v.l) : x.ok := by
  cases v; rw [Val.ok] at h; exact okL_mem h.2.2.1 hx
theorem Val.ok_n {v : Val} (h : v.ok) : -9223372036854775808 ≤ v.n ∧ v.n ≤ 9223372036854775807 := by
  cases v
  rw [Val.ok] at h
  have := h.2.1
  unfold Lit.wf IntKind.min IntKind.max at this
  rw [Bool.and_eq_true, decide_eq_true_eq, decide_eq_true_eq] at this
  exact ⟨this.1, this.2⟩
end Go.Proofs.YtmfmdehfbpkgdaaGreatDoor
namespace Go.Av
open Go
variable [Globals]
theorem A.allocv {P : Program} [Lay P] {all : Array Oper} {draw : Bool} {K : AX → Slots → St → Prop} {rest : List Oper} {acc : List Tag} {s : Slots} {σ : St} {ty : TypeId} {pos : String} {af : Array Edge} {d : Tmp} {T : TypeId} {k z : Nat} {x : AV} {T' : List Tok} {ti : TI} (hT : ty? P T = some ti) (hz' : ti.size = z) (hx : ti.zero = x)
    (hk : smallLen σ.T = some k) (hT' : snocK σ.T (.vec [x]) some = some T')
    (kk : AOps P all draw K rest (.tk :: acc) ((d, .vptr k z 1 0 0) :: s) ⟨σ.B, T'⟩) : AOps P all draw K (⟨some d, .alloc T, ty, pos, af, none⟩ :: rest) acc s σ :=
  A.step (t := .tk) (σ' := ⟨σ.B, T'⟩) rfl ⟨rfl, fun B => by
    intro g w a next Q hI ho hn
    subst hz'; subst hx
    obtain ⟨zv, hz, hz1, hz2, hz3⟩ := run_zero' hT w
    have h1 : Rep g w ti.zero zv := by rw [← hz1]; exact rep_ofConst g w zv
    have hTe : σ.T ++ [.vec [ti.zero]] = T' := Option.some.inj (snocK_spec _ _ _ _ hT')
    have hkl : σ.T.length = k := smallLen_spec hk
    have hnone : g.tk[k]? = none := by
      have hlt : g.tk.length = σ.T.length := hI.lenT
      rw [← hkl, ← hlt]; simp
    have hzone : ∀ b o, (⟨some ⟨w.heap.size, 0, none⟩, 1, 1, ti.size, 0⟩ : Rec).zone b o → b = w.heap.size ∧ o < zv.cells.size := by
      rintro b o ⟨p, hp, rfl, e1, e2⟩
      cases hp
      refine ⟨rfl, ?_⟩
      rw [hz2]
      simpa using e2
    obtain ⟨g', e1, e2, e3, _⟩ := retk (k := k) (r' := ⟨some ⟨w.heap.size, 0, none⟩, 1, 1, ti.size, 0⟩) (t' := .vec [ti.zero]) (J := fun _ _ => False) hI (w' := pushW w (.cells zv.cells T)) (.inr ⟨hkl.symm, rfl⟩)
      (by rw [push_size]; exact Nat.le_succ _) rfl rfl rfl (fun b hb _ => push_old w _ hb) (fun b o hb _ => (cell_old (push_old w _ hb)).1) (fun b o hb => (cell_old (push_old w _ hb)).2) (fun _ _ h => h.elim)
      (fun b o ho => by
        obtain ⟨rfl, h2⟩ := hzone b o ho
        exact ⟨⟨zv.cells[o], (new_data_cell w zv.cells T o).trans (Array.getElem?_eq_getElem h2)⟩, new_data_frozen w zv.cells T o, .inl (Nat.le_refl _)⟩)
      (fun r hr => by rw [hnone] at hr; cases hr)
      (fun g' hle => ⟨rfl, rfl, Nat.le_refl _, [zv], ⟨zv, [], rfl, Rep.mono hle _ _ h1, rfl⟩, (fun e => by cases e), (fun V hV => by rw [List.mem_singleton.1 hV]; exact hz2), (fun p hp => by
        cases hp
        refine ⟨.inl rfl, inMemE_of_flat (fun V hV => by rw [List.mem_singleton.1 hV]; exact hz2) fun j u hj => ?_⟩
        have hj' : zv.cells.toList[j]? = some u := by simpa [flat] using hj
        refine ⟨trivial, ?_, hz3 u (List.mem_of_getElem? hj')⟩
        show (pushW w (.cells zv.cells T)).cell? ⟨w.heap.size, 0 + j, none⟩ = some u
        rw [Nat.zero_add]
        exact (new_data_cell w zv.cells T j).trans (by simpa using hj'))⟩)
    unfold Oper.wp
    simp only [execOp, Instr.alloc, hz, newVar, newRow, newObj, Sem.run_bind, Result.andThen, Sem.run]
    exact hn _ _ _ e1 (hTe ▸ e2) ⟨w.heap.size, 0, rfl, by omega, _, e3, rfl, Nat.le_refl _, fun _ => ⟨rfl, _, rfl, rfl, rfl, by simp⟩⟩⟩ kk
theorem Turn.freezeP {σ : St} {k z n j : Nat} {xs : List AV} {y : AV} {T' : List Tok} (hT : σ.T[k]? = some (.vec xs)) (hn : xs.length = n) (hy : xs[j]? = some y) (hT' : setTK k (.len (n + 1)) σ.T some = some T') :
    Turn σ (.vptr k z n j 0) ⟨σ.B, T'⟩ (.rptr y) := fun g w v hI hr => by
  obtain ⟨kl, hTe⟩ := setTK_spec _ _ _ _ _ hT'
  obtain ⟨r0, Vs, p, hv, hp, hps, rfl, hj⟩ := vptr_at hI hr hT hn
  obtain ⟨V, hV, hrV⟩ := hv.rep.get hy
  have hkl : k < σ.T.length := (List.getElem?_eq_some_iff.1 hT).1
  obtain ⟨g', e1, e2, e3, e4⟩ := retk (r' := ⟨none, n + 1, 0, z, n + 1⟩) (t' := .len (n + 1)) (J := fun b o => r0.zone b o) hI (w' := w) (.inl ⟨hkl, rfl⟩) (Nat.le_refl _) rfl rfl rfl (fun _ _ _ => rfl) (fun _ _ _ _ => rfl) (fun _ _ _ => rfl)
    (fun b o hzo => ⟨(fun ⟨p, hp, _⟩ => by cases hp), hI.z_lt hv.hr hzo, .inr ⟨r0, hv.hr, hzo⟩⟩)
    (fun b o ⟨p, hp, _⟩ => by cases hp) (fun r1 hr1 => by
      have : r1 = r0 := Option.some.inj (hr1.symm.trans hv.hr)
      subst this
      exact .inr ⟨by rw [hv.n, hn]; show n < n + 1; omega, by rw [hv.sz]⟩) (fun g' _ => ⟨rfl, rfl⟩)
  refine ⟨g', e1, ?_, p.block, p.off + j * z + 0, V, rfl, fun i x hi => ?_, Rep.mono e1.le _ _ hrV⟩
  · rw [← Option.some.inj hTe]; exact e2
  · obtain ⟨m1, m2⟩ := (hv.mem p hp).2 j V hV
    obtain ⟨_, m3, m4⟩ := m2 i x hi
    have hi' : i < z := by have := (Array.getElem?_eq_some_iff.1 hi).1; omega
    have hb : (j + 1) * z ≤ r0.cap * z := Nat.mul_le_mul_right _ (by have := hv.cap; have := hv.len; omega)
    rw [Nat.succ_mul] at hb
    have hz := hv.zone hp (o := j * z + i) (by omega)
    rw [← Nat.add_assoc] at hz
    rw [Nat.add_zero]
    exact ⟨e4 _ _ hz, m3, m4⟩
end Go.Av
namespace Go.Av
open Go
section
variable [Globals]
variable {P : Program} [Lay P] {all : Array Oper} {draw : Bool} {K : AX → Slots → St → Prop} {rest : List Oper} {acc : List Tag} {s : Slots} {σ : St}
variable {d : Tmp} {ty : TypeId} {pos : String} {af : Array Edge}
end
end Go.Av
namespace Go.Av
open Go
section
variable [Globals]
variable {P : Program} {all : Array Oper} {draw : Bool} {K : AX → Slots → St → Prop} {rest : List Oper} {acc : List Tag} {s : Slots} {σ : St} {ty : TypeId} {pos : String} {af : Array Edge}
theorem A.callA {d : Option Tmp} {f : FuncId} {args : Array Operand} {tys : Array TypeId} {vals vals0 : List AV} {v : AV} {σ1 : St} (ha : evsK s args.toList some = some vals)
    (hp : AFn P f vals0 σ (fun e σ' => e = .ret v ∧ σ' = σ1)) (hw : WeakL vals vals0)
    (k : AOps P all draw K rest (.all :: acc) (putS d v s) σ1) : AOps P all draw K (⟨d, .call ⟨.value (.func f), args, tys⟩, ty, pos, af, none⟩ :: rest) acc s σ :=
  A.step (t := .all) (σ' := σ1) rfl (by
    intro g w a next Q hI ho hn
    have hvv : args.toList.map (ev s) = vals := Option.some.inj (evsK_spec _ _ _ ha)
    have hl := repL_map (g := g) (w := w) (s := s) (a := a) args.toList (fun x hx => ho x (by simpa [Op.operands, Call.operands] using .inr (by simpa using hx)))
    rw [hvv] at hl
    have hl2 : RepL g w vals0 (args.map a.eval).toList := by
      rw [Array.toList_map]
      exact hw _ _ _ hl
    unfold Oper.wp
    rw [run_call_func hp.1 a w]
    show Calls P f (args.map a.eval) w _
    refine (hp.2 _ w _ hI hl2).mono ?_
    rintro e w' ⟨g1, σ', x, h1, h2, h3, rfl, rfl⟩
    obtain ⟨u, rfl, hu⟩ := h3
    exact hn u w' g1 h1 h2 hu) k
theorem Turn.adopt {σ : St} {k z : Nat} {t : Tk} {T' : List Tok} (ht : t.fresh = true) (hk : smallLen σ.T = some k) (hT' : snocK σ.T (.len 0) some = some T') : Turn σ (.slice [] t) ⟨σ.B, T'⟩ (.slice [] (.own k z)) := fun g w v hi hr => by
  obtain ⟨g', e1, e2, e3⟩ := adopt_sem (agg := true) (z := z) ht rfl hi hr
  rw [smallLen_spec hk] at e3
  refine ⟨g', e1, ?_, e3⟩
  rw [← Option.some.inj (snocK_spec _ _ _ _ hT')]; exact e2
theorem A.boxv {d : Tmp} {T : TypeId} {x : Operand} {k z : Nat} {v : AV} {T' : List Tok} (hx : ev? s x = some v) (hf : fits true z v = true) (hk : smallLen σ.T = some k) (hT' : snocK σ.T (.vec [v]) some = some T')
    (kk : AOps P all draw K rest (.tk :: acc) ((d, .vptr k z 1 0 0) :: s) ⟨σ.B, T'⟩) : AOps P all draw K (⟨some d, .box T x, ty, pos, af, none⟩ :: rest) acc s σ :=
  A.step (t := .tk) (σ' := ⟨σ.B, T'⟩) rfl ⟨rfl, fun B => by
    intro g w a next Q hI ho hn
    have h1 := op1 hx (by simp [Op.operands]) ho
    obtain ⟨hz2, _, _, hz3⟩ := fits_spec hf h1
    generalize hzv : a.eval x = zv at h1 hz2 hz3
    have hTe : σ.T ++ [.vec [v]] = T' := Option.some.inj (snocK_spec _ _ _ _ hT')
    have hkl : σ.T.length = k := smallLen_spec hk
    have hnone : g.tk[k]? = none := by
      have hlt : g.tk.length = σ.T.length := hI.lenT
      rw [← hkl, ← hlt]; simp
    have hzone : ∀ b o, (⟨some ⟨w.heap.size, 0, none⟩, 1, 1, z, 0⟩ : Rec).zone b o → b = w.heap.size ∧ o < zv.cells.size := by
      rintro b o ⟨p, hp, rfl, e1, e2⟩
      cases hp
      refine ⟨rfl, ?_⟩
      rw [hz2]
      simpa using e2
    obtain ⟨g', e1, e2, e3, _⟩ := retk (k := k) (r' := ⟨some ⟨w.heap.size, 0, none⟩, 1, 1, z, 0⟩) (t' := .vec [v]) (J := fun _ _ => False) hI (w' := pushW w (.cells zv.cells T)) (.inr ⟨hkl.symm, rfl⟩)
      (by rw [push_size]; exact Nat.le_succ _) rfl rfl rfl (fun b hb _ => push_old w _ hb) (fun b o hb _ => (cell_old (push_old w _ hb)).1) (fun b o hb => (cell_old (push_old w _ hb)).2) (fun _ _ h => h.elim)
      (fun b o ho => by
        obtain ⟨rfl, h2⟩ := hzone b o ho
        exact ⟨⟨zv.cells[o], (new_data_cell w zv.cells T o).trans (Array.getElem?_eq_getElem h2)⟩, new_data_frozen w zv.cells T o, .inl (Nat.le_refl _)⟩)
      (fun r hr => by rw [hnone] at hr; cases hr)
      (fun g' hle => ⟨rfl, rfl, Nat.le_refl _, [zv], ⟨zv, [], rfl, Rep.mono hle _ _ h1, rfl⟩, (fun e => by cases e), (fun V hV => by rw [List.mem_singleton.1 hV]; exact hz2), (fun p hp => by
        cases hp
        refine ⟨.inl rfl, inMemE_of_flat (fun V hV => by rw [List.mem_singleton.1 hV]; exact hz2) fun j u hj => ?_⟩
        have hj' : zv.cells.toList[j]? = some u := by simpa [flat] using hj
        refine ⟨trivial, ?_, hz3 u (List.mem_of_getElem? hj')⟩
        show (pushW w (.cells zv.cells T)).cell? ⟨w.heap.size, 0 + j, none⟩ = some u
        rw [Nat.zero_add]
        exact (new_data_cell w zv.cells T j).trans (by simpa using hj'))⟩)
    unfold Oper.wp
    simp only [execOp, Instr.box, newVar, newRow, newObj, Sem.run_bind, Result.andThen, Sem.run, hzv]
    exact hn _ _ _ e1 (hTe ▸ e2) ⟨w.heap.size, 0, rfl, by omega, _, e3, rfl, Nat.le_refl _, fun _ => ⟨rfl, _, rfl, rfl, rfl, by simp⟩⟩⟩ kk
theorem A.vnil {d : Tmp} {x : Operand} {k z n j off : Nat} (hx : ev? s x = some (.vptr k z n j off)) (kk : AOps P all draw K rest (.pure :: acc) ((d, .vptr k z n j off) :: s) σ) : AOps P all draw K (⟨some d, .nilCheck x, ty, pos, af, none⟩ :: rest) acc s σ :=
  A.step rfl (tpure fun g w a ho => by
    have h1 := op1 hx (by simp [Op.operands]) ho
    obtain ⟨b, o, e, h2⟩ := h1
    exact ⟨_, by simp only [execOp, e]; rfl, ⟨b, o, rfl, h2⟩⟩) kk
theorem A.nlP {d : Tmp} {x : Operand} {i off : Nat} (hx : ev? s x = some (.ptr i off)) (k : AOps P all draw K rest (.pure :: acc) ((d, .ptr i off) :: s) σ) : AOps P all draw K (⟨some d, .nilCheck x, ty, pos, af, none⟩ :: rest) acc s σ :=
  A.step rfl (tpure fun g w a ho => by
    obtain ⟨b, hb, e⟩ := op1 hx (by simp [Op.operands]) ho
    exact ⟨_, by simp only [execOp, e]; rfl, ⟨b, hb, rfl⟩⟩) k
theorem A.nilR {d : Tmp} {x : Operand} {v : AV} (hx : ev? s x = some (.rptr v)) (kk : AOps P all draw K rest (.pure :: acc) ((d, .rptr v) :: s) σ) : AOps P all draw K (⟨some d, .nilCheck x, ty, pos, af, none⟩ :: rest) acc s σ :=
  A.step rfl (tpure fun g w a ho => by
    have h1 := op1 hx (by simp [Op.operands]) ho
    obtain ⟨b, o, V, e, h2⟩ := h1
    exact ⟨_, by simp only [execOp, e]; rfl, ⟨b, o, V, rfl, h2⟩⟩) kk
theorem Turn.last {σ σ' : St} {xs : List AV} {x y : AV} {t : Tk} (h : Turn σ x σ' y) : Turn σ (.slice (xs ++ [x]) t) σ' (.slice (xs ++ [y]) t) := fun g w v hI hr => by
  obtain ⟨a, cap, sz, Vs, e, h1, h2, h3, h4, h5, h6⟩ := hr
  have key : ∀ (xs : List AV) (Vs : List Value), RepL g w (xs ++ [x]) Vs → ∃ V1 v1, Vs = V1 ++ [v1] ∧ RepL g w xs V1 ∧ Rep g w x v1 := by
    intro xs
    induction xs with
    | nil => rintro Vs ⟨v, r, rfl, q1, q2⟩; rw [show r = [] from q2]; exact ⟨[], v, rfl, rfl, q1⟩
    | cons c xs ih =>
      rintro Vs ⟨v, r, rfl, q1, q2⟩
      obtain ⟨V1, v1, rfl, q3, q4⟩ := ih r q2
      exact ⟨v :: V1, v1, rfl, ⟨v, V1, rfl, q1, q3⟩, q4⟩
  obtain ⟨V1, v1, rfl, q1, q2⟩ := key xs Vs h4
  obtain ⟨g', e1, e2, e3⟩ := h g w v1 hI q2
  exact ⟨g', e1, e2, a, cap, sz, V1 ++ [v1], e, h1, h2, h3.mono e1.le, (RepL.mono e1.le _ _ q1).append (RepL.cons e3 RepL.nil), h5, fun p hp => ⟨(h6 p hp).1, (h6 p hp).2.mono e1.le⟩⟩
end
end Go.Av
namespace Go.Av
open Go
variable [Globals]
theorem upd_range {α : Type} (l0 l c : List α) (hc : l0.length ≤ c.length) : upd (l0 ++ l) (List.range l0.length) c = c.take l0.length ++ l := by
  apply List.ext_getElem?
  intro j
  by_cases hj : j < l0.length
  · have h1 := upd_new (l0 ++ l) (List.range l0.length) c j j List.nodup_range (fun i hi => by rw [List.mem_range] at hi; rw [List.length_append]; omega) (by rw [List.length_range]; exact hc) (by rw [List.getElem?_range hj])
    rw [h1, List.getElem?_append_left (by rw [List.length_take]; omega), List.getElem?_take_of_lt hj]
  · have h1 := upd_old (l0 ++ l) (List.range l0.length) c j (fun h => hj (List.mem_range.1 h))
    rw [h1, List.getElem?_append_right (by omega), List.getElem?_append_right (by rw [List.length_take]; omega), List.length_take, Nat.min_eq_left hc]
theorem merge_range {α : Type} (l0 l c : List α) (h : l = [] ∨ c.length = l0.length) (hc : l0.length ≤ c.length) : merge (l0 ++ l) (List.range l0.length) c = c ++ l := by
  unfold merge
  rw [upd_range l0 l c hc, List.length_range]
  rcases h with rfl | h
  · simp
  · rw [List.take_of_length_le (by omega), List.drop_eq_nil_of_le (by omega), List.append_nil]
theorem emb_range {n m k : Nat} (h : m = 0 ∨ k < n) : emb (n + m) (List.range n) k = k := by
  unfold emb
  rw [List.length_range]
  split
  · rename_i hk
    simp [List.getD, List.getElem?_range hk]
  · rcases h with rfl | h <;> omega
theorem renB_same {fb ft : Nat → Nat} {n m : Nat} (hb : ∀ i, i < n → fb i = i) (ht : ∀ k, k < m → ft k = k) : ∀ B : List Ob, belowB n m B = true → B.map (Ob.ren fb ft) = B
  | [], _ => rfl
  | o :: B, h => by
    rw [belowB, Bool.and_eq_true] at h
    rw [List.map_cons, renB_same hb ht B h.2]
    congr 1
    cases o with
    | cells cs => rw [Ob.ren, AV.renL_same hb ht cs h.1]
    | map es =>
      rw [Ob.ren]
      congr 1
      have : ∀ es : List (AV × AV), belowM n m es = true → renM fb ft es = es := by
        intro es
        induction es with
        | nil => intro _; rfl
        | cons p es ih =>
          intro h
          obtain ⟨k, v⟩ := p
          rw [belowM, Bool.and_eq_true, Bool.and_eq_true] at h
          rw [renM, AV.ren_same hb ht k h.1.1, AV.ren_same hb ht v h.1.2, ih h.2]
      exact this es h.1
    | iter s p => rfl
section
variable {P : Program} {all : Array Oper} {draw : Bool} {K : AX → Slots → St → Prop} {rest : List Oper} {acc : List Tag} {s : Slots} {σ : St} {ty : TypeId} {pos : String} {af : Array Edge}
theorem A.callPre {d : Option Tmp} {f : FuncId} {args : Array Operand} {tys : Array TypeId} {vals vals0 : List AV} {B0 B1 B : List Ob} {T0 T1 T : List Tok} {v : AV} (ha : evsK s args.toList some = some vals)
    (hp : AFn P f vals0 ⟨B0, T0⟩ (fun e σ1 => e = .ret v ∧ σ1 = ⟨B1, T1⟩)) (hσ : σ = ⟨B0 ++ B, T0 ++ T⟩) (hB : B = [] ∨ B1.length = B0.length) (hT : T = [] ∨ T1.length = T0.length) (hBl : B0.length ≤ B1.length) (hTl : T0.length ≤ T1.length)
    (hb0 : belowB B0.length T0.length B0 = true) (ht0 : belowT B0.length T0.length T0 = true) (hb1 : belowB B1.length T1.length B1 = true) (ht1 : belowT B1.length T1.length T1 = true)
    (hla : AV.lowL B0.length T0.length vals0 = true) (hv : v.low B1.length T1.length = true) (hw : WeakL vals vals0)
    (k : AOps P all draw K rest (.all :: acc) (putS d v s) ⟨B1 ++ B, T1 ++ T⟩) : AOps P all draw K (⟨d, .call ⟨.value (.func f), args, tys⟩, ty, pos, af, none⟩ :: rest) acc s σ := by
  subst hσ
  have hfb : ∀ i, i < B1.length → emb (B0.length + B.length) (List.range B0.length) i = i := fun i hi => emb_range (hB.imp (fun h => by rw [h]; rfl) (fun h => by omega))
  have hft : ∀ i, i < T1.length → emb (T0.length + T.length) (List.range T0.length) i = i := fun i hi => emb_range (hT.imp (fun h => by rw [h]; rfl) (fun h => by omega))
  have hfb0 : ∀ i, i < B0.length → emb (B0.length + B.length) (List.range B0.length) i = i := fun i hi => hfb i (by omega)
  have hft0 : ∀ i, i < T0.length → emb (T0.length + T.length) (List.range T0.length) i = i := fun i hi => hft i (by omega)
  have e0 := renB_same hfb0 hft0 B0 hb0
  have e1 := renT_same hfb0 hft0 T0 ht0
  refine A.callR (nB := B0.length + B.length) (nT := T0.length + T.length) (List.range B0.length) (List.range T0.length) ha hp (by simp) (by simp) ⟨List.nodup_range, fun i hi => by have := List.mem_range.1 hi; omega⟩ ⟨List.nodup_range, fun i hi => by have := List.mem_range.1 hi; omega⟩
    (by simp) (by simp) (fun j i ob h ho => ?_) (fun j i t h ht => ?_) (by rw [List.length_range, List.length_range]; exact hb0) (by rw [List.length_range, List.length_range]; exact ht0) (by rw [List.length_range, List.length_range]; exact hla)
    (by rw [AV.renL_same hfb0 hft0 vals0 hla]; exact hw) (AV.ren_same hfb hft v hv) (B' := B1 ++ B) (T' := T1 ++ T) ?_ ?_ k
  · have hj : j < B0.length := (List.getElem?_eq_some_iff.1 ho).1
    rw [List.getElem?_range hj] at h
    cases h
    have q := congrArg (fun l : List Ob => l[j]?) e0
    simp only [List.getElem?_map, ho] at q
    show (B0 ++ B)[j]? = _
    rw [List.getElem?_append_left hj, ho]
    exact q.symm
  · have hj : j < T0.length := (List.getElem?_eq_some_iff.1 ht).1
    rw [List.getElem?_range hj] at h
    cases h
    have q := congrArg (fun l : List Tok => l[j]?) e1
    simp only [List.getElem?_map, ht] at q
    show (T0 ++ T)[j]? = _
    rw [List.getElem?_append_left hj, ht]
    exact q.symm
  · rw [renB_same hfb hft B1 hb1]
    exact merge_range B0 B B1 hB hBl
  · rw [renT_same hfb hft T1 ht1]
    exact merge_range T0 T T1 hT hTl
theorem A.callPreB {d : Option Tmp} {f : FuncId} {args : Array Operand} {tys : Array TypeId} {vals vals0 : List AV} {B0 B1 B : List Ob} {T0 T1 : List Tok} {v : AV} (ha : evsK s args.toList some = some vals)
    (hp : AFn P f vals0 ⟨B0, T0⟩ (fun e σ1 => e = .ret v ∧ σ1 = ⟨B1, T1⟩)) (hσ : σ = ⟨B0 ++ B, T0⟩) (hB : B1.length = B0.length) (hTl : T0.length ≤ T1.length)
    (hb0 : belowB B0.length T0.length B0 = true) (ht0 : belowT B0.length T0.length T0 = true) (hb1 : belowB B1.length T1.length B1 = true) (ht1 : belowT B1.length T1.length T1 = true)
    (hla : AV.lowL B0.length T0.length vals0 = true) (hv : v.low B1.length T1.length = true) (hw : WeakL vals vals0)
    (k : AOps P all draw K rest (.all :: acc) (putS d v s) ⟨B1 ++ B, T1⟩) : AOps P all draw K (⟨d, .call ⟨.value (.func f), args, tys⟩, ty, pos, af, none⟩ :: rest) acc s σ :=
  A.callPre (B := B) (T := []) ha hp (by rw [List.append_nil]; exact hσ) (.inr hB) (.inl rfl) (by omega) hTl hb0 ht0 hb1 ht1 hla hv hw (by rw [List.append_nil]; exact k)
theorem A.callvR {d : Option Tmp} {x : Operand} {f : FuncId} {args : Array Operand} {tys : Array TypeId} {fs cs vals vals0 : List AV} {B0 B1 B' : List Ob} {T0 T1 T' : List Tok} {v0 v : AV} {nB nT : Nat} (bs ts : List Nat) (hx : ev? s x = some (.fn (.func f) fs cs)) (ha : evsK s args.toList some = some vals)
    (hp : AFn P f vals0 ⟨B0, T0⟩ (fun e σ1 => e = .ret v0 ∧ σ1 = ⟨B1, T1⟩)) (hnB : σ.B.length = nB) (hnT : σ.T.length = nT) (hsb : Sel nB bs) (hst : Sel nT ts) (hB0 : B0.length = bs.length) (hT0 : T0.length = ts.length)
    (hob : ∀ (k i : Nat) (ob : Ob), bs[k]? = some i → B0[k]? = some ob → σ.B[i]? = some (ob.ren (emb nB bs) (emb nT ts))) (htk : ∀ (k i : Nat) (t : Tok), ts[k]? = some i → T0[k]? = some t → σ.T[i]? = some (t.ren (emb nB bs) (emb nT ts)))
    (hlB : belowB bs.length ts.length B0 = true) (hlT : belowT bs.length ts.length T0 = true) (hla : AV.lowL bs.length ts.length vals0 = true) (hw : WeakL (fs ++ vals ++ cs) (AV.renL (emb nB bs) (emb nT ts) vals0))
    (hv : v0.ren (emb nB bs) (emb nT ts) = v) (hB' : merge σ.B bs (B1.map (Ob.ren (emb nB bs) (emb nT ts))) = B') (hT' : merge σ.T ts (T1.map (Tok.ren (emb nB bs) (emb nT ts))) = T')
    (k : AOps P all draw K rest (.all :: acc) (putS d v s) ⟨B', T'⟩) : AOps P all draw K (⟨d, .call ⟨.value x, args, tys⟩, ty, pos, af, none⟩ :: rest) acc s σ :=
  A.step (t := .all) (σ' := ⟨B', T'⟩) rfl (by
    intro g w a next Q hI ho hn
    subst hnB; subst hnT
    have hvv : args.toList.map (ev s) = vals := Option.some.inj (evsK_spec _ _ _ ha)
    obtain ⟨vs, us, hfx, hf1, hf2⟩ := op1 hx (by simp [Op.operands, Call.operands]) ho
    have hl := repL_map (g := g) (w := w) (s := s) (a := a) args.toList (fun x hx => ho x (by simpa [Op.operands, Call.operands] using .inr (by simpa using hx)))
    rw [hvv] at hl
    obtain ⟨p1, p2, p3, p4⟩ := pick_inv hI hsb hst hB0 hT0 hob htk hlB hlT
    have hl2 : RepL (g.pick bs ts) w vals0 (vs ++ args.map a.eval ++ us).toList := by
      simp only [Array.toList_append, Array.toList_map]
      exact RepL.unren p2 vals0 _ (by rw [p3, p4]; exact hla) (hw _ _ _ ((hf1.append hl).append hf2))
    unfold Oper.wp
    rw [run_call_value hp.1 a w vs us hfx]
    show Calls P f (vs ++ args.map a.eval ++ us) w _
    refine (hp.2 _ w _ p1 hl2).mono ?_
    rintro e w' ⟨g1, σ1, x, h1, h2, h3, rfl, rfl⟩
    obtain ⟨u, rfl, hu⟩ := h3
    obtain ⟨g', e1, e2, e3⟩ := join_inv hI hsb hst p3 p4 p2 h1 h2
    rw [hB', hT'] at e2
    exact hn u w' g' e1 e2 (by rw [← hv]; exact Rep.ren e3 _ _ hu)) k
theorem A.callvPreB {d : Option Tmp} {x : Operand} {f : FuncId} {args : Array Operand} {tys : Array TypeId} {fs cs vals vals0 : List AV} {B0 B1 B : List Ob} {T0 T1 : List Tok} {v : AV} (hx : ev? s x = some (.fn (.func f) fs cs)) (ha : evsK s args.toList some = some vals)
    (hp : AFn P f vals0 ⟨B0, T0⟩ (fun e σ1 => e = .ret v ∧ σ1 = ⟨B1, T1⟩)) (hσ : σ = ⟨B0 ++ B, T0⟩) (hB : B1.length = B0.length) (hTl : T0.length ≤ T1.length)
    (hb0 : belowB B0.length T0.length B0 = true) (ht0 : belowT B0.length T0.length T0 = true) (hb1 : belowB B1.length T1.length B1 = true) (ht1 : belowT B1.length T1.length T1 = true)
    (hla : AV.lowL B0.length T0.length vals0 = true) (hv : v.low B1.length T1.length = true) (hw : WeakL (fs ++ vals ++ cs) vals0)
    (k : AOps P all draw K rest (.all :: acc) (putS d v s) ⟨B1 ++ B, T1⟩) : AOps P all draw K (⟨d, .call ⟨.value x, args, tys⟩, ty, pos, af, none⟩ :: rest) acc s σ := by
  subst hσ
  have hfb : ∀ i, i < B1.length → emb (B0.length + B.length) (List.range B0.length) i = i := fun i hi => emb_range (.inr (by omega))
  have hft : ∀ i, i < T1.length → emb (T0.length + 0) (List.range T0.length) i = i := fun i hi => emb_range (.inl rfl)
  have hfb0 : ∀ i, i < B0.length → emb (B0.length + B.length) (List.range B0.length) i = i := fun i hi => hfb i (by omega)
  have hft0 : ∀ i, i < T0.length → emb (T0.length + 0) (List.range T0.length) i = i := fun i hi => hft i (by omega)
  have e0 := renB_same hfb0 hft0 B0 hb0
  have e1 := renT_same hfb0 hft0 T0 ht0
  refine A.callvR (nB := B0.length + B.length) (nT := T0.length + 0) (List.range B0.length) (List.range T0.length) hx ha hp (by simp) rfl ⟨List.nodup_range, fun i hi => by have := List.mem_range.1 hi; omega⟩ ⟨List.nodup_range, fun i hi => by have := List.mem_range.1 hi; omega⟩
    (by simp) (by simp) (fun j i ob h ho => ?_) (fun j i t h ht => ?_) (by rw [List.length_range, List.length_range]; exact hb0) (by rw [List.length_range, List.length_range]; exact ht0) (by rw [List.length_range, List.length_range]; exact hla)
    (by rw [AV.renL_same hfb0 hft0 vals0 hla]; exact hw) (AV.ren_same hfb hft v hv) (B' := B1 ++ B) (T' := T1) ?_ ?_ k
  · have hj : j < B0.length := (List.getElem?_eq_some_iff.1 ho).1
    rw [List.getElem?_range hj] at h
    cases h
    have q := congrArg (fun l : List Ob => l[j]?) e0
    simp only [List.getElem?_map, ho] at q
    show (B0 ++ B)[j]? = _
    rw [List.getElem?_append_left hj, ho]
    exact q.symm
  · have hj : j < T0.length := (List.getElem?_eq_some_iff.1 ht).1
    rw [List.getElem?_range hj] at h
    cases h
    have q := congrArg (fun l : List Tok => l[j]?) e1
    simp only [List.getElem?_map, ht] at q
    show T0[j]? = _
    rw [ht]
    exact q.symm
  · rw [renB_same hfb hft B1 hb1]
    exact merge_range B0 B B1 (.inr hB) (by omega)
  · rw [renT_same hfb hft T1 ht1]
    have := merge_range T0 [] T1 (.inl rfl) hTl
    rwa [List.append_nil, List.append_nil] at this
theorem Turn.weakV {σ : St} {k : Nat} {x y z0 : AV} {T' : List Tok} (hT : σ.T[k]? = some (.vec [x])) (h : Weak x y) (hT' : setTK k (.vec [y]) σ.T some = some T') : Turn σ z0 ⟨σ.B, T'⟩ z0 := fun g w v hI hr => by
  obtain ⟨kl, hTe⟩ := setTK_spec _ _ _ _ _ hT'
  have hT'e : T' = σ.T.set k (.vec [y]) := (Option.some.inj hTe).symm
  subst hT'e
  have hkg : k < g.tk.length := by rw [hI.lenT]; exact kl
  have key : ∀ (j : Nat) (t : Tok) (r : Rec), g.tk[j]? = some r → (σ.T.set k (.vec [y]))[j]? = some t → TokOk g w r t := fun j t r hj ht => by
    by_cases e : j = k
    · subst e
      rw [List.getElem?_set_self kl] at ht
      cases ht
      obtain ⟨q1, q2, q3, Vs, q4, q5, q6, q7⟩ := hI.tok j _ r hj hT
      obtain ⟨u, rest, e1, e2, e3⟩ := q4
      exact ⟨q1, q2, q3, Vs, ⟨u, rest, e1, h g w u e2, e3⟩, q5, q6, q7⟩
    · rw [List.getElem?_set_ne (Ne.symm e)] at ht
      exact hI.tok j t r hj ht
  exact ⟨g, Ext.refl g w, ⟨hI.lenB, (by show g.tk.length = (σ.T.set k (.vec [y])).length; rw [List.length_set]; exact hI.lenT), hI.ob, hI.nodup, hI.noim, key, hI.tkz, hI.tkd, hI.imlt, hI.gl⟩, hr⟩
theorem AFn.methK {P : Program} {f : FuncId} {args : List AV} {σ : St} {v2 : AV} {nB mT : Nat} {B' : List Ob} {T' : List Tok}
    (h : AFn P f args σ (fun e σ1 => ∃ v σ2, e = .ret v ∧ Turn σ1 v σ2 v2 ∧ σ2.B.take nB = B' ∧ σ2.T.take mT = T')) (hb : σ.B.length ≤ nB) (ht : σ.T.length ≤ mT) (hv : v2.low nB mT = true) (hB : belowB nB mT B' = true) (hT : belowT nB mT T' = true) :
    AFn P f args σ (fun e σ1 => e = .ret v2 ∧ σ1 = ⟨B', T'⟩) :=
  ⟨h.1, fun g w vals hi hl => (h.2 g w vals hi hl).mono fun e w' ⟨g', σ', x, h1, h2, h3, v, σ2, e1, h4, h5, h6⟩ => by
    subst e1
    obtain ⟨u, rfl, hu⟩ := h3
    obtain ⟨g2, k1, k2, k3⟩ := h4 g' w' u h2 hu
    subst h5; subst h6
    exact ⟨g2.cutTo nB mT, _, .ret v2, cutTo_ext (h1.trans k1) (by rw [hi.lenB]; exact hb) (by rw [hi.lenT]; exact ht), cutTo_inv k2 hB hT, ⟨u, rfl, Rep.low v2 u hv k3⟩, rfl, rfl⟩⟩
end
end Go.Av
namespace Go.Proofs.YtmfmdehfbpkgdaaGreatDoor
open Go Go.Av
theorem Val.lv_low (n m : Nat) (v : Val) : AV.lowL n m v.lv = true := AV.lowL_of_closed n m _ v.lv_closed
theorem Val.mv_low (n m : Nat) (v : Val) : AV.lowL n m v.mv = true := AV.lowL_of_closed n m _ v.mv_closed
theorem sameV_eq (a b : Val) : sameV a b = (a.kind == b.kind && a.n == b.n && a.s == b.s && sameL a.l b.l && sameM a.m b.m) := by cases a; cases b; rw [sameV]; rfl
theorem sameL_len : ∀ {p q : List Val}, p.length ≠ q.length → sameL p q = false
  | [], [], h => absurd rfl h
  | [], _ :: _, _ => by rw [sameL] <;> simp
  | _ :: _, [], _ => by rw [sameL] <;> simp
  | a :: p, b :: q, h => by rw [sameL, sameL_len (p := p) (q := q) (by simpa using h), Bool.and_false]
theorem sameM_len : ∀ {p q : List Mem}, p.length ≠ q.length → sameM p q = false
  | [], [], h => absurd rfl h
  | [], _ :: _, _ => by rw [sameM] <;> simp
  | .mk _ _ :: _, [], _ => by rw [sameM] <;> simp
  | .mk _ _ :: p, .mk _ _ :: q, h => by rw [sameM, sameM_len (p := p) (q := q) (by simpa using h), Bool.and_false]
theorem sameL_drop {a b : List Val} {k : Nat} (h1 : k < a.length) (h2 : k < b.length) : sameL (a.drop k) (b.drop k) = (sameV a[k] b[k] && sameL (a.drop (k + 1)) (b.drop (k + 1))) := by
  rw [List.drop_eq_getElem_cons h1, List.drop_eq_getElem_cons h2, sameL]
theorem sameM_drop {a b : List Mem} {k : Nat} (h1 : k < a.length) (h2 : k < b.length) : sameM (a.drop k) (b.drop k) = (a[k].name == b[k].name && sameV a[k].v b[k].v && sameM (a.drop (k + 1)) (b.drop (k + 1))) := by
  rw [List.drop_eq_getElem_cons h1, List.drop_eq_getElem_cons h2]
  cases a[k]; cases b[k]
  rw [sameM]; rfl
theorem map_get' {α : Type} {f : α → AV} {l : List α} {k : Nat} (h : k < l.length) : (l.map f)[k]? = some (f l[k]) := by simp [h]
theorem Mem.closedL (l : List Mem) : AV.closedL (l.map Mem.enc) = true := closedL_map Mem.closed l
theorem Val.closedL' (l : List Val) : AV.closedL (l.map Val.enc) = true := closedL_map Val.closed l
theorem Mem.lowL (n m : Nat) (l : List Mem) : AV.lowL n m (l.map Mem.enc) = true := AV.lowL_of_closed n m _ (Mem.closedL l)
theorem Val.lowL' (n m : Nat) (l : List Val) : AV.lowL n m (l.map Val.enc) = true := AV.lowL_of_closed n m _ (Val.closedL' l)
structure Typ where
  name : Str
  lists : Int
  musts : Int
  deriving DecidableEq
def Typ.enc (t : Typ) : AV := .agg [.str t.name, .int .i64 t.lists, .int .i64 t.musts]
structure Dirc where
  name : Str
  args : List Mem
def Dirc.enc (d : Dirc) : AV := .agg [.str d.name, .slice (d.args.map Mem.enc) .no]
structure Par where
  name : Str
  t : Typ
  has : Bool
  d : Val
def Par.enc (p : Par) : AV := .agg [.str p.name, .str p.t.name, .int .i64 p.t.lists, .int .i64 p.t.musts, .bool p.has, .int .i64 p.d.kind, .int .i64 p.d.n, .str p.d.s, .slice p.d.lv .no, .slice p.d.mv .no]
structure Fld where
  name : Str
  params : List Par
  t : Typ
  dirs : List Dirc
def Fld.enc (f : Fld) : AV := .agg [.str f.name, .slice (f.params.map Par.enc) .no, .str f.t.name, .int .i64 f.t.lists, .int .i64 f.t.musts, .slice (f.dirs.map Dirc.enc) .no]
structure Dfn where
  kind : Int
  name : Str
  faces : List Str
  fields : List Fld
  parts : List Str
  params : List Par
def Dfn.enc (d : Dfn) : AV := .agg [.int .i64 d.kind, .str d.name, .slice (d.faces.map AV.str) .no, .slice (d.fields.map Fld.enc) .no, .slice (d.parts.map AV.str) .no, .slice (d.params.map Par.enc) .no]
structure Sch where
  defs : List Dfn
  query : Str
  mutation : Str
def Sch.enc (s : Sch) : AV := .agg [.slice (s.defs.map Dfn.enc) .no, .str s.query, .str s.mutation]
theorem str_closedL (l : List Str) : AV.closedL (l.map AV.str) = true := closedL_map (fun _ => rfl) l
theorem int_closedL (l : List Int) : AV.closedL (l.map (AV.int .i64)) = true := closedL_map (fun _ => rfl) l
@[simp] theorem lowL_int (n m : Nat) (l : List Int) : AV.lowL n m (List.map (AV.int .i64) l) = true := AV.lowL_of_closed n m _ (int_closedL l)
theorem Typ.closed (t : Typ) : t.enc.closed = true := rfl
theorem Dirc.closed (d : Dirc) : d.enc.closed = true := by simp [Dirc.enc, AV.closed, AV.closedL, Mem.closedL]
theorem Dirc.closedL (l : List Dirc) : AV.closedL (l.map Dirc.enc) = true := closedL_map Dirc.closed l
theorem Par.closed (p : Par) : p.enc.closed = true := by simp [Par.enc, AV.closed, AV.closedL, Val.lv_closed, Val.mv_closed]
theorem Par.closedL (l : List Par) : AV.closedL (l.map Par.enc) = true := closedL_map Par.closed l
theorem Fld.closed (f : Fld) : f.enc.closed = true := by simp [Fld.enc, AV.closed, AV.closedL, Par.closedL, Dirc.closedL]
theorem Fld.closedL (l : List Fld) : AV.closedL (l.map Fld.enc) = true := closedL_map Fld.closed l
theorem Dfn.closed (d : Dfn) : d.enc.closed = true := by simp [Dfn.enc, AV.closed, AV.closedL, Par.closedL, Fld.closedL, str_closedL]
theorem Dfn.closedL (l : List Dfn) : AV.closedL (l.map Dfn.enc) = true := closedL_map Dfn.closed l
theorem Sch.closed (s : Sch) : s.enc.closed = true := by simp [Sch.enc, AV.closed, AV.closedL, Dfn.closedL]
@[simp] theorem lowL_str (n m : Nat) (l : List _) : AV.lowL n m (List.map AV.str l) = true := AV.lowL_of_closed n m _ (str_closedL l)
@[simp] theorem lowL_Dirc (n m : Nat) (l : List _) : AV.lowL n m (List.map Dirc.enc l) = true := AV.lowL_of_closed n m _ (Dirc.closedL l)
@[simp] theorem lowL_Par (n m : Nat) (l : List _) : AV.lowL n m (List.map Par.enc l) = true := AV.lowL_of_closed n m _ (Par.closedL l)
@[simp] theorem lowL_Fld (n m : Nat) (l : List _) : AV.lowL n m (List.map Fld.enc l) = true := AV.lowL_of_closed n m _ (Fld.closedL l)
@[simp] theorem lowL_Dfn (n m : Nat) (l : List _) : AV.lowL n m (List.map Dfn.enc l) = true := AV.lowL_of_closed n m _ (Dfn.closedL l)
@[simp] theorem lowL_mem (n m : Nat) (l : List _) : AV.lowL n m (List.map Mem.enc l) = true := AV.lowL_of_closed n m _ (Mem.closedL l)
@[simp] theorem lowL_lv (n m : Nat) (v : Val) : AV.lowL n m v.lv = true := AV.lowL_of_closed n m _ v.lv_closed
@[simp] theorem lowL_mv (n m : Nat) (v : Val) : AV.lowL n m v.mv = true := AV.lowL_of_closed n m _ v.mv_closed
@[simp] theorem low_Typ (n m : Nat) (x : Typ) : (Typ.enc x).low n m = true := AV.low_of_closed n m _ (Typ.closed x)
@[simp] theorem low_Dfn (n m : Nat) (x : Dfn) : (Dfn.enc x).low n m = true := AV.low_of_closed n m _ (Dfn.closed x)
@[simp] theorem low_Sch (n m : Nat) (x : Sch) : (Sch.enc x).low n m = true := AV.low_of_closed n m _ (Sch.closed x)
@[simp] theorem low_Val (n m : Nat) (x : Val) : (Val.enc x).low n m = true := AV.low_of_closed n m _ (Val.closed x)
def Typ.size (t : Typ) : Nat := t.name.length + 4
def Dirc.size (d : Dirc) : Nat := d.name.length + sumSize Mem.size d.args + 3
def Par.size (p : Par) : Nat := p.name.length + p.t.size + p.d.size + 3
def Fld.size (f : Fld) : Nat := f.name.length + sumSize Par.size f.params + f.t.size + sumSize Dirc.size f.dirs + 4
def strsSize (l : List Str) : Nat := sumSize (fun s : Str => s.length + 1) l + 1
def Dfn.size (d : Dfn) : Nat := d.name.length + strsSize d.faces + sumSize Fld.size d.fields + strsSize d.parts + sumSize Par.size d.params + 5
def Sch.size (s : Sch) : Nat := sumSize Dfn.size s.defs + s.query.length + s.mutation.length + 4
def Dirc.ok (d : Dirc) : Prop := ∀ m ∈ d.args, m.ok
def Par.ok (p : Par) : Prop := p.d.ok
def Fld.ok (f : Fld) : Prop := (∀ p ∈ f.params, p.ok) ∧ ∀ d ∈ f.dirs, d.ok
def Dfn.ok (d : Dfn) : Prop := (∀ f ∈ d.fields, f.ok) ∧ ∀ p ∈ d.params, p.ok
def Sch.ok (s : Sch) : Prop := ∀ d ∈ s.defs, d.ok
theorem reads_bool' (n : Nat) : ReadN Tryz.prog n 4 false (fun x : Bool => .bool x) (fun _ => 1) (fun _ => True) := ReadN.bool Tryz.underlying4
theorem reads_strs : ∀ n : Nat, ReadN Tryz.prog n 46 false (fun l : List Str => .slice (l.map AV.str) .no) (fun l => sumSize (fun x : Str => x.length + 1) l + 1) (fun l => ∀ x ∈ l, True)
  | 0 => ReadN.zero
  | n + 1 => ReadN.slice Tryz.underlying46 (c := 1) (by kernel_rfl) (by decide) (reads_str n)
theorem reads_typ : ∀ n : Nat, ReadN Tryz.prog n 27 true Typ.enc Typ.size (fun _ => True)
  | 0 => ReadN.zero
  | n + 1 => (ReadN.struct Tryz.underlying27 (by kernel_rfl)
      (ReadF.cons (c := 1) rfl (by kernel_rfl) (one_cell fun _ => rfl) (reads_str n)
        (ReadF.cons (c := 1) rfl (by kernel_rfl) (one_cell fun _ => rfl) (reads_int n)
          (ReadF.cons (c := 1) rfl (by kernel_rfl) (one_cell fun _ => rfl) (reads_int n) ReadF.nil)))).map
      (fun x => (⟨x.1, x.2.1, x.2.2.1⟩ : Typ)) (fun _ => rfl) (fun x => by simp only [Typ.size]; omega) (fun x h => trivial)
theorem reads_dir : ∀ n : Nat, ReadN Tryz.prog n 83 true Dirc.enc Dirc.size Dirc.ok
  | 0 => ReadN.zero
  | n + 1 => (ReadN.struct Tryz.underlying83 (by kernel_rfl)
      (ReadF.cons (c := 1) rfl (by kernel_rfl) (one_cell fun _ => rfl) (reads_str n)
        (ReadF.cons (c := 1) rfl (by kernel_rfl) (one_cell fun _ => rfl) (reads_mems n) ReadF.nil))).map
      (fun x => (⟨x.1, x.2.1⟩ : Dirc)) (fun _ => rfl) (fun x => by simp only [Dirc.size]; omega) (fun x h => h.2.1)
theorem reads_dirs : ∀ n : Nat, ReadN Tryz.prog n 28 false (fun l => .slice (l.map Dirc.enc) .no) (fun l => sumSize Dirc.size l + 1) (fun l => ∀ x ∈ l, x.ok)
  | 0 => ReadN.zero
  | n + 1 => ReadN.slice Tryz.underlying28 (c := 2) (by kernel_rfl) (by decide) (reads_dir n)
theorem reads_par : ∀ n : Nat, ReadN Tryz.prog n 81 true Par.enc Par.size Par.ok
  | 0 => ReadN.zero
  | n + 1 => (ReadN.struct Tryz.underlying81 (by kernel_rfl)
      (ReadF.cons (c := 1) rfl (by kernel_rfl) (one_cell fun _ => rfl) (reads_str n)
        (ReadF.cons (c := 3) rfl (by kernel_rfl) (flat_cells fun _ => ⟨_, rfl⟩) (reads_typ n)
          (ReadF.cons (c := 1) rfl (by kernel_rfl) (one_cell fun _ => rfl) (reads_bool' n)
            (ReadF.cons (c := 5) rfl (by kernel_rfl) (flat_cells fun _ => ⟨_, rfl⟩) (reads_val n) ReadF.nil))))).map
      (fun x => (⟨x.1, x.2.1, x.2.2.1, x.2.2.2.1⟩ : Par)) (fun _ => rfl) (fun x => by simp only [Par.size]; omega) (fun x h => h.2.2.2.1)
theorem reads_pars : ∀ n : Nat, ReadN Tryz.prog n 25 false (fun l => .slice (l.map Par.enc) .no) (fun l => sumSize Par.size l + 1) (fun l => ∀ x ∈ l, x.ok)
  | 0 => ReadN.zero
  | n + 1 => ReadN.slice Tryz.underlying25 (c := 10) (by kernel_rfl) (by decide) (reads_par n)
theorem reads_fld : ∀ n : Nat, ReadN Tryz.prog n 30 true Fld.enc Fld.size Fld.ok
  | 0 => ReadN.zero
  | n + 1 => (ReadN.struct Tryz.underlying30 (by kernel_rfl)
      (ReadF.cons (c := 1) rfl (by kernel_rfl) (one_cell fun _ => rfl) (reads_str n)
        (ReadF.cons (c := 1) rfl (by kernel_rfl) (one_cell fun _ => rfl) (reads_pars n)
          (ReadF.cons (c := 3) rfl (by kernel_rfl) (flat_cells fun _ => ⟨_, rfl⟩) (reads_typ n)
            (ReadF.cons (c := 1) rfl (by kernel_rfl) (one_cell fun _ => rfl) (reads_dirs n) ReadF.nil))))).map
      (fun x => (⟨x.1, x.2.1, x.2.2.1, x.2.2.2.1⟩ : Fld)) (fun _ => rfl) (fun x => by simp only [Fld.size]; omega) (fun x h => ⟨h.2.1, h.2.2.2.1⟩)
theorem reads_flds : ∀ n : Nat, ReadN Tryz.prog n 47 false (fun l => .slice (l.map Fld.enc) .no) (fun l => sumSize Fld.size l + 1) (fun l => ∀ x ∈ l, x.ok)
  | 0 => ReadN.zero
  | n + 1 => ReadN.slice Tryz.underlying47 (c := 6) (by kernel_rfl) (by decide) (reads_fld n)
theorem reads_dfn : ∀ n : Nat, ReadN Tryz.prog n 49 true Dfn.enc Dfn.size Dfn.ok
  | 0 => ReadN.zero
  | n + 1 => (ReadN.struct Tryz.underlying49 (by kernel_rfl)
      (ReadF.cons (c := 1) rfl (by kernel_rfl) (one_cell fun _ => rfl) (reads_int n)
        (ReadF.cons (c := 1) rfl (by kernel_rfl) (one_cell fun _ => rfl) (reads_str n)
          (ReadF.cons (c := 1) rfl (by kernel_rfl) (one_cell fun _ => rfl) (reads_strs n)
            (ReadF.cons (c := 1) rfl (by kernel_rfl) (one_cell fun _ => rfl) (reads_flds n)
              (ReadF.cons (c := 1) rfl (by kernel_rfl) (one_cell fun _ => rfl) (reads_strs n)
                (ReadF.cons (c := 1) rfl (by kernel_rfl) (one_cell fun _ => rfl) (reads_pars n) ReadF.nil))))))).map
      (fun x => (⟨x.1, x.2.1, x.2.2.1, x.2.2.2.1, x.2.2.2.2.1, x.2.2.2.2.2.1⟩ : Dfn)) (fun _ => rfl) (fun x => by simp only [Dfn.size, strsSize]; omega) (fun x h => ⟨h.2.2.2.1, h.2.2.2.2.2.1⟩)
theorem reads_dfns : ∀ n : Nat, ReadN Tryz.prog n 22 false (fun l => .slice (l.map Dfn.enc) .no) (fun l => sumSize Dfn.size l + 1) (fun l => ∀ x ∈ l, x.ok)
  | 0 => ReadN.zero
  | n + 1 => ReadN.slice Tryz.underlying22 (c := 6) (by kernel_rfl) (by decide) (reads_dfn n)
theorem reads_sch : ∀ n : Nat, ReadN Tryz.prog n 24 true Sch.enc Sch.size Sch.ok
  | 0 => ReadN.zero
  | n + 1 => (ReadN.struct Tryz.underlying24 (by kernel_rfl)
      (ReadF.cons (c := 1) rfl (by kernel_rfl) (one_cell fun _ => rfl) (reads_dfns n)
        (ReadF.cons (c := 1) rfl (by kernel_rfl) (one_cell fun _ => rfl) (reads_str n)
          (ReadF.cons (c := 1) rfl (by kernel_rfl) (one_cell fun _ => rfl) (reads_str n) ReadF.nil)))).map
      (fun x => (⟨x.1, x.2.1, x.2.2.1⟩ : Sch)) (fun _ => rfl) (fun x => by simp only [Sch.size]; omega) (fun x h => h.1)
inductive Sl where
  | mk (kind : Int) (alias name : Str) (args : List Mem) (dirs : List Dirc) (on : Str) (sels : List Sl)
def Sl.kind : Sl → Int
  | .mk k _ _ _ _ _ _ => k
def Sl.alias : Sl → Str
  | .mk _ a _ _ _ _ _ => a
def Sl.name : Sl → Str
  | .mk _ _ n _ _ _ _ => n
def Sl.args : Sl → List Mem
  | .mk _ _ _ a _ _ _ => a
def Sl.dirs : Sl → List Dirc
  | .mk _ _ _ _ d _ _ => d
def Sl.on : Sl → Str
  | .mk _ _ _ _ _ o _ => o
def Sl.sels : Sl → List Sl
  | .mk _ _ _ _ _ _ l => l
mutual
def Sl.sv : Sl → List AV
  | .mk _ _ _ _ _ _ l => Sl.goL l
def Sl.goL : List Sl → List AV
  | [] => []
  | x :: l => .agg [.int .i64 x.kind, .str x.alias, .str x.name, .slice (x.args.map Mem.enc) .no, .slice (x.dirs.map Dirc.enc) .no, .str x.on, .slice (Sl.sv x) .no] :: Sl.goL l
end
def Sl.enc (x : Sl) : AV := .agg [.int .i64 x.kind, .str x.alias, .str x.name, .slice (x.args.map Mem.enc) .no, .slice (x.dirs.map Dirc.enc) .no, .str x.on, .slice x.sv .no]
theorem Sl.goL_eq : ∀ l : List Sl, Sl.goL l = l.map Sl.enc
  | [] => by simp [Sl.goL]
  | x :: l => by rw [Sl.goL, Sl.goL_eq l]; rfl
theorem Sl.sv_eq (x : Sl) : x.sv = x.sels.map Sl.enc := by cases x; rw [Sl.sv, Sl.goL_eq]; rfl
theorem Sl.sv_len (x : Sl) : x.sv.length = x.sels.length := by rw [Sl.sv_eq, List.length_map]
mutual
theorem Sl.closed : ∀ x : Sl, x.enc.closed = true
  | .mk k a n m d o l => by
    simp only [Sl.enc, AV.closed, AV.closedL, Bool.and_true, Bool.true_and, Mem.closedL, Dirc.closedL]
    rw [Sl.sv, Sl.closedG l]
theorem Sl.closedG : ∀ l : List Sl, AV.closedL (Sl.goL l) = true
  | [] => by simp [Sl.goL, AV.closedL]
  | x :: l => by
    have h1 := Sl.closed x
    have h2 := Sl.closedG l
    rw [Sl.goL, AV.closedL, h2, Bool.and_true]
    exact h1
end
theorem Sl.closedL (l : List Sl) : AV.closedL (l.map Sl.enc) = true := by rw [← Sl.goL_eq]; exact Sl.closedG l
theorem Sl.sv_closed (x : Sl) : AV.closedL x.sv = true := by rw [x.sv_eq]; exact Sl.closedL _
theorem Sl.fits (x : Sl) : Av.fits true 7 x.enc = true := rfl
theorem Sl.fitsAll (l : List Sl) : Av.fitsAll true 7 (l.map Sl.enc) = true := fitsAll_map Sl.fits l
mutual
def Sl.size : Sl → Nat
  | .mk _ a n m d o l => a.length + n.length + sumSize Mem.size m + sumSize Dirc.size d + o.length + Sl.sizeL l + 8
def Sl.sizeL : List Sl → Nat
  | [] => 0
  | x :: l => Sl.size x + Sl.sizeL l
end
theorem Sl.sizeL_eq : ∀ l : List Sl, Sl.sizeL l = sumSize Sl.size l
  | [] => by simp [Sl.sizeL, sumSize]
  | v :: l => by rw [Sl.sizeL, sumSize, Sl.sizeL_eq l]
theorem Sl.size_eq (x : Sl) : x.size = x.alias.length + x.name.length + sumSize Mem.size x.args + sumSize Dirc.size x.dirs + x.on.length + sumSize Sl.size x.sels + 8 := by
  cases x; rw [Sl.size, Sl.sizeL_eq]; rfl
theorem Sl.size_pos (x : Sl) : 1 ≤ x.size := by rw [Sl.size_eq]; omega
mutual
def Sl.ok : Sl → Prop
  | .mk k _ _ m d _ l => (Lit.int .i64 k).wf = true ∧ (∀ x ∈ m, x.ok) ∧ (∀ x ∈ d, x.ok) ∧ Sl.okL l
def Sl.okL : List Sl → Prop
  | [] => True
  | x :: l => Sl.ok x ∧ Sl.okL l
end
theorem Sl.okL_of : ∀ {l : List Sl}, (∀ x ∈ l, x.ok) → Sl.okL l
  | [], _ => by rw [Sl.okL]; trivial
  | v :: l, h => by rw [Sl.okL]; exact ⟨h v (by simp), Sl.okL_of fun x hx => h x (by simp [hx])⟩
theorem Sl.okL_all : ∀ {l : List Sl}, Sl.okL l → ∀ x ∈ l, x.ok
  | [], _, _, h => by cases h
  | v :: l, h, x, hx => by
    rw [Sl.okL] at h
    rcases List.mem_cons.1 hx with rfl | hx
    · exact h.1
    · exact Sl.okL_all h.2 x hx
theorem Sl.ok_eq (x : Sl) : x.ok ↔ (Lit.int .i64 x.kind).wf = true ∧ (∀ m ∈ x.args, m.ok) ∧ (∀ d ∈ x.dirs, d.ok) ∧ ∀ y ∈ x.sels, y.ok := by
  cases x
  rw [Sl.ok]
  exact ⟨fun h => ⟨h.1, h.2.1, h.2.2.1, Sl.okL_all h.2.2.2⟩, fun h => ⟨h.1, h.2.1, h.2.2.1, Sl.okL_of h.2.2.2⟩⟩
structure Opr where
  kind : Int
  name : Str
  vars : List Par
  dirs : List Dirc
  sels : List Sl
def Opr.enc (o : Opr) : AV := .agg [.int .i64 o.kind, .str o.name, .slice (o.vars.map Par.enc) .no, .slice (o.dirs.map Dirc.enc) .no, .slice (o.sels.map Sl.enc) .no]
structure Frg where
  name : Str
  on : Str
  dirs : List Dirc
  sels : List Sl
def Frg.enc (f : Frg) : AV := .agg [.str f.name, .str f.on, .slice (f.dirs.map Dirc.enc) .no, .slice (f.sels.map Sl.enc) .no]
structure Dcm where
  ops : List Opr
  frags : List Frg
def Dcm.enc (d : Dcm) : AV := .agg [.slice (d.ops.map Opr.enc) .no, .slice (d.frags.map Frg.enc) .no]
structure Grp where
  key : Str
  sels : List Sl
def Grp.enc (g : Grp) : AV := .agg [.str g.key, .slice (g.sels.map Sl.enc) .no]
theorem Opr.closed (o : Opr) : o.enc.closed = true := by simp [Opr.enc, AV.closed, AV.closedL, Par.closedL, Dirc.closedL, Sl.closedL]
theorem Frg.closed (f : Frg) : f.enc.closed = true := by simp [Frg.enc, AV.closed, AV.closedL, Dirc.closedL, Sl.closedL]
theorem Grp.closed (g : Grp) : g.enc.closed = true := by simp [Grp.enc, AV.closed, AV.closedL, Sl.closedL]
theorem Opr.closedL (l : List Opr) : AV.closedL (l.map Opr.enc) = true := closedL_map Opr.closed l
theorem Frg.closedL (l : List Frg) : AV.closedL (l.map Frg.enc) = true := closedL_map Frg.closed l
theorem Grp.closedL (l : List Grp) : AV.closedL (l.map Grp.enc) = true := closedL_map Grp.closed l
theorem Dcm.closed (d : Dcm) : d.enc.closed = true := by simp [Dcm.enc, AV.closed, AV.closedL, Opr.closedL, Frg.closedL]
@[simp] theorem lowL_Sl (n m : Nat) (l : List _) : AV.lowL n m (List.map Sl.enc l) = true := AV.lowL_of_closed n m _ (Sl.closedL l)
@[simp] theorem lowL_Opr (n m : Nat) (l : List _) : AV.lowL n m (List.map Opr.enc l) = true := AV.lowL_of_closed n m _ (Opr.closedL l)
@[simp] theorem lowL_Frg (n m : Nat) (l : List _) : AV.lowL n m (List.map Frg.enc l) = true := AV.lowL_of_closed n m _ (Frg.closedL l)
@[simp] theorem lowL_Grp (n m : Nat) (l : List _) : AV.lowL n m (List.map Grp.enc l) = true := AV.lowL_of_closed n m _ (Grp.closedL l)
@[simp] theorem lowL_sv (n m : Nat) (x : Sl) : AV.lowL n m x.sv = true := AV.lowL_of_closed n m _ x.sv_closed
@[simp] theorem low_Sl (n m : Nat) (x : Sl) : (Sl.enc x).low n m = true := AV.low_of_closed n m _ (Sl.closed x)
@[simp] theorem low_Opr (n m : Nat) (x : Opr) : (Opr.enc x).low n m = true := AV.low_of_closed n m _ (Opr.closed x)
@[simp] theorem low_Dcm (n m : Nat) (x : Dcm) : (Dcm.enc x).low n m = true := AV.low_of_closed n m _ (Dcm.closed x)
def Opr.size (o : Opr) : Nat := o.name.length + sumSize Par.size o.vars + sumSize Dirc.size o.dirs + sumSize Sl.size o.sels + 6
def Frg.size (f : Frg) : Nat := f.name.length + f.on.length + sumSize Dirc.size f.dirs + sumSize Sl.size f.sels + 4
def Dcm.size (d : Dcm) : Nat := sumSize Opr.size d.ops + sumSize Frg.size d.frags + 3
end Go.Proofs.YtmfmdehfbpkgdaaGreatDoor
