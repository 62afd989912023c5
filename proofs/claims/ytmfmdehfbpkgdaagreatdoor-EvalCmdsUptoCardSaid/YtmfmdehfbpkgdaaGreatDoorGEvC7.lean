/-
  Contracts and plain facts for a law, joined.
-/
import Derived.Test.YtmfmdehfbpkgdaaGreatDoorGEvC3
import Derived.Test.YtmfmdehfbpkgdaaGreatDoorGEvC6
import Derived.Test.YtmfmdehfbpkgdaaGreatDoorGEvC2
import Derived.Test.YtmfmdehfbpkgdaaGreatDoorGEvC4
set_option maxRecDepth 100000
set_option maxHeartbeats 16000000
set_option linter.unusedVariables false
set_option linter.unusedSimpArgs false
set_option linter.unusedSectionVars false
namespace Go.Proofs.YtmfmdehfbpkgdaaGreatDoor
open Go Go.Av
theorem thruM_app (s : Sch) (d : Dcm) (env : List Mem) (typ : Str) (n : Nat) : ∀ (a b : List Sl) (g : Gs), thruM s d env typ n (a ++ b) g = thruM s d env typ n b (thruM s d env typ n a g)
  | [], b, g => by rw [List.nil_append, thruM_nil]
  | x :: a, b, g => by rw [List.cons_append, thruM_cons, thruM_app s d env typ n a b, thruM_cons]
theorem thruM_take (s : Sch) (d : Dcm) (env : List Mem) (typ : Str) (n : Nat) {l : List Sl} {k : Nat} (h : k < l.length) (g : Gs) :
    thruM s d env typ n (l.take (k + 1)) g = stepM s d env typ n l[k] (thruM s d env typ n (l.take k) g) := by
  rw [List.take_succ_eq_append_getElem h, thruM_app, thruM_cons, thruM_nil]
def unmet (d : Dcm) (met : List Str) : List Frg := d.frags.filter fun f => decide (f.name ∉ met)
def totG (out : List Grp) : Nat := sumSize (fun g : Grp => g.sels.length + 1) out
def potT (tot : List Grp → Nat) (d : Dcm) (g : Gs) : Nat := tot g.out + sumSize (fun f : Frg => sumSize Sl.size f.sels) (unmet d g.met)
def potG (d : Dcm) (g : Gs) : Nat := potT totG d g
theorem filter_less {α : Type} {p q : α → Bool} (w : α → Nat) (hpq : ∀ x, q x = true → p x = true) : ∀ (l : List α), sumSize w (l.filter q) ≤ sumSize w (l.filter p)
  | [] => Nat.le_refl _
  | y :: l => by
    have ih := filter_less w hpq l
    have hy := hpq y
    cases hq : q y <;> cases hp : p y <;> simp_all [sumSize] <;> omega
theorem filter_one {α : Type} {p q : α → Bool} (w : α → Nat) (hpq : ∀ x, q x = true → p x = true) {f : α} (hp : p f = true) (hq : q f = false) : ∀ (l : List α), f ∈ l → sumSize w (l.filter q) + w f ≤ sumSize w (l.filter p)
  | y :: l, h => by
    rcases List.mem_cons.1 h with rfl | h
    · have := filter_less w hpq l
      simp only [List.filter_cons, hp, hq, if_true, sumSize]
      simp only [Bool.false_eq_true, if_false]
      omega
    · have ih := filter_one w hpq hp hq l h
      have hy := hpq y
      cases hq' : q y <;> cases hp' : p y <;> simp_all [sumSize] <;> omega
theorem sum_one {α : Type} (l : List α) : sumSize (fun _ => 1) l = l.length := by
  induction l with
  | nil => rfl
  | cons x l ih => rw [sumSize, ih, List.length_cons]; omega
theorem unmet_sub (d : Dcm) (met : List Str) (nm : Str) (x : Frg) (h : decide (x.name ∉ met ++ [nm]) = true) : decide (x.name ∉ met) = true := by
  simp only [decide_eq_true_eq, List.mem_append, not_or] at h ⊢
  exact h.1
theorem unmet_less (d : Dcm) (met : List Str) (nm : Str) : (unmet d (met ++ [nm])).length ≤ (unmet d met).length := by
  rw [← sum_one, ← sum_one]; exact filter_less _ (unmet_sub d met nm) d.frags
theorem unmet_w (d : Dcm) (met : List Str) (nm : Str) (w : Frg → Nat) : sumSize w (unmet d (met ++ [nm])) ≤ sumSize w (unmet d met) := filter_less _ (unmet_sub d met nm) d.frags
theorem unmet_one (d : Dcm) (met : List Str) {f : Frg} (hf : f ∈ d.frags) (hn : f.name ∉ met) : (unmet d (met ++ [f.name])).length + 1 ≤ (unmet d met).length := by
  rw [← sum_one, ← sum_one]; exact filter_one (fun _ => 1) (unmet_sub d met f.name) (by simpa using hn) (by simp) d.frags hf
theorem unmet_wone (d : Dcm) (met : List Str) {f : Frg} (hf : f ∈ d.frags) (hn : f.name ∉ met) (w : Frg → Nat) : sumSize w (unmet d (met ++ [f.name])) + w f ≤ sumSize w (unmet d met) :=
  filter_one w (unmet_sub d met f.name) (by simpa using hn) (by simp) d.frags hf
theorem fragO_mem {d : Dcm} {nm : Str} {f : Frg} (h : fragO d nm = some f) : f ∈ d.frags ∧ f.name = nm := ⟨List.mem_of_find?_eq_some h, by simpa using List.find?_some h⟩
theorem addK_tot (x : Sl) : ∀ l : List Grp, totG (addK x l) ≤ totG l + 2
  | [] => by simp [addK, totG, sumSize]
  | g :: l => by
    have ih := addK_tot x l
    rw [addK]
    unfold totG at ih ⊢
    split
    · simp only [sumSize, List.length_append, List.length_cons, List.length_nil]; omega
    · simp only [sumSize]; omega
def PotOk (tot : List Grp → Nat) (s : Sch) (d : Dcm) (env : List Mem) (typ : Str) (n : Nat) (l : List Sl) (g : Gs) : Prop :=
  potT tot d (thruM s d env typ n l g) ≤ potT tot d g + sumSize Sl.size l ∧ (unmet d (thruM s d env typ n l g).met).length ≤ (unmet d g.met).length
theorem pot_step (tot : List Grp → Nat) (htot : ∀ x l, tot (addK x l) ≤ tot l + x.size) (s : Sch) (d : Dcm) (env : List Mem) (typ : Str) (n N : Nat) (ihn : ∀ m, n = m + 1 → ∀ l g, PotOk tot s d env typ m l g) (ih : ∀ l g, sumSize Sl.size l ≤ N → PotOk tot s d env typ n l g) (x : Sl) (hN : sumSize Sl.size x.sels ≤ N) (g : Gs) :
    potT tot d (stepM s d env typ n x g) ≤ potT tot d g + x.size ∧ (unmet d (stepM s d env typ n x g).met).length ≤ (unmet d g.met).length := by
  have hx := x.size_eq
  unfold stepM
  have hu := unmet_less d g.met x.name
  have hw := unmet_w d g.met x.name (fun f : Frg => sumSize Sl.size f.sels)
  have hk := htot x g.out
  by_cases c0 : holdsB env x.dirs = false
  · rw [if_pos c0]; exact ⟨by omega, Nat.le_refl _⟩
  rw [if_neg c0]
  by_cases c1 : x.kind = 0
  · rw [if_pos c1]; exact ⟨by unfold potT; dsimp only; omega, Nat.le_refl _⟩
  rw [if_neg c1]
  by_cases c2 : x.kind = 1
  · rw [if_pos c2]
    by_cases c3 : x.name ∈ g.met
    · rw [if_pos c3]; exact ⟨by omega, Nat.le_refl _⟩
    rw [if_neg c3]
    cases hf : fragO d x.name with
    | none => exact ⟨by unfold potT; dsimp only; omega, hu⟩
    | some f =>
      obtain ⟨hm, hfn⟩ := fragO_mem hf
      dsimp only
      by_cases c4 : applB s typ f.on = true
      · rw [if_pos c4]
        cases n with
        | zero => exact ⟨by unfold potT; dsimp only; omega, hu⟩
        | succ m =>
          obtain ⟨h3, h4⟩ := ihn m rfl f.sels ⟨g.met ++ [x.name], g.out⟩
          have hw1 := unmet_wone d g.met hm (by rw [hfn]; exact c3) (fun f : Frg => sumSize Sl.size f.sels)
          rw [hfn] at hw1
          refine ⟨?_, by dsimp only at h4; dsimp only; omega⟩
          have e : potT tot d ⟨g.met ++ [x.name], g.out⟩ = tot g.out + sumSize (fun f : Frg => sumSize Sl.size f.sels) (unmet d (g.met ++ [x.name])) := rfl
          have e2 : potT tot d g = tot g.out + sumSize (fun f : Frg => sumSize Sl.size f.sels) (unmet d g.met) := rfl
          dsimp only
          omega
      · rw [if_neg c4]; exact ⟨by unfold potT; dsimp only; omega, hu⟩
  rw [if_neg c2]
  by_cases c5 : x.kind = 2
  · rw [if_pos c5]
    by_cases c6 : applB s typ x.on = true
    · rw [if_pos c6]
      obtain ⟨h3, h4⟩ := ih x.sels g hN
      exact ⟨by omega, h4⟩
    · rw [if_neg c6]; exact ⟨by omega, Nat.le_refl _⟩
  · rw [if_neg c5]; exact ⟨by omega, Nat.le_refl _⟩
theorem pot_all (tot : List Grp → Nat) (htot : ∀ x l, tot (addK x l) ≤ tot l + x.size) (s : Sch) (d : Dcm) (env : List Mem) (typ : Str) (n : Nat) (ihn : ∀ m, n = m + 1 → ∀ l g, PotOk tot s d env typ m l g) : ∀ (N : Nat) (l : List Sl) (g : Gs), sumSize Sl.size l ≤ N → PotOk tot s d env typ n l g
  | _, [], g, _ => by unfold PotOk; rw [thruM_nil]; exact ⟨by omega, Nat.le_refl _⟩
  | 0, x :: l, g, h => by rw [sumSize] at h; have := x.size_pos; omega
  | N + 1, x :: l, g, h => by
    rw [sumSize] at h
    have hx := x.size_eq
    obtain ⟨h1, h2⟩ := pot_all tot htot s d env typ n ihn N l (stepM s d env typ n x g) (by have := x.size_pos; omega)
    obtain ⟨h3, h4⟩ := pot_step tot htot s d env typ n N ihn (fun l g h => pot_all tot htot s d env typ n ihn N l g h) x (by omega) g
    unfold PotOk
    rw [thruM_cons, sumSize]
    exact ⟨by omega, by omega⟩
theorem pot_thruT (tot : List Grp → Nat) (htot : ∀ x l, tot (addK x l) ≤ tot l + x.size) (s : Sch) (d : Dcm) (env : List Mem) (typ : Str) : ∀ (n : Nat) (l : List Sl) (g : Gs), PotOk tot s d env typ n l g
  | 0, l, g => pot_all tot htot s d env typ 0 (fun m h => absurd h (by omega)) _ l g (Nat.le_refl _)
  | n + 1, l, g => pot_all tot htot s d env typ (n + 1) (fun m h l g => (Nat.succ.inj h) ▸ pot_thruT tot htot s d env typ n l g) _ l g (Nat.le_refl _)
theorem pot_thru (s : Sch) (d : Dcm) (env : List Mem) (typ : Str) (n : Nat) (l : List Sl) (g : Gs) : potG d (thruM s d env typ n l g) ≤ potG d g + sumSize Sl.size l ∧ (unmet d (thruM s d env typ n l g).met).length ≤ (unmet d g.met).length :=
  pot_thruT totG (fun x l => Nat.le_trans (addK_tot x l) (by have := x.size_eq; omega)) s d env typ n l g
def totW (out : List Grp) : Nat := sumSize (fun g : Grp => sumSize Sl.size g.sels) out
theorem sum_snoc {α : Type} (f : α → Nat) (x : α) : ∀ l : List α, sumSize f (l ++ [x]) = sumSize f l + f x
  | [] => by simp [sumSize]
  | y :: l => by rw [List.cons_append, sumSize, sumSize, sum_snoc f x l]; omega
theorem addK_totW (x : Sl) : ∀ l : List Grp, totW (addK x l) ≤ totW l + x.size
  | [] => by simp [addK, totW, sumSize]
  | g :: l => by
    have ih := addK_totW x l
    rw [addK]
    unfold totW at ih ⊢
    split
    · simp only [sumSize, sum_snoc]; omega
    · simp only [sumSize]; omega
theorem groups_tot (s : Sch) (d : Dcm) (env : List Mem) (typ : Str) (l : List Sl) : totW (groupsM s d env typ l) ≤ sumSize Sl.size l + sumSize (fun f : Frg => sumSize Sl.size f.sels) d.frags := by
  obtain ⟨h1, _⟩ := pot_thruT totW addK_totW s d env typ d.frags.length l ⟨[], []⟩
  unfold potT at h1
  rw [show unmet d ([] : List Str) = d.frags from List.filter_eq_self.2 (by simp)] at h1
  have : totW ([] : List Grp) = 0 := rfl
  unfold groupsM
  dsimp only at h1
  omega
def AllG (Q : Sl → Prop) (out : List Grp) : Prop := ∀ g ∈ out, g.sels ≠ [] ∧ ∀ x ∈ g.sels, Q x
theorem addK_all {Q : Sl → Prop} {x : Sl} (hx : Q x) : ∀ {l : List Grp}, AllG Q l → AllG Q (addK x l)
  | [], _ => fun g hg => by
    rw [addK] at hg
    obtain rfl := List.mem_singleton.1 hg
    exact ⟨by simp, fun y hy => by obtain rfl := List.mem_singleton.1 hy; exact hx⟩
  | g :: l, h => by
    have hg := h g (by simp)
    have ih := addK_all hx (l := l) fun g' hg' => h g' (by simp [hg'])
    rw [addK]
    split
    · intro g' hg'
      rcases List.mem_cons.1 hg' with rfl | hg'
      · exact ⟨by simp, fun y hy => by
          rcases List.mem_append.1 hy with hy | hy
          · exact hg.2 y hy
          · obtain rfl := List.mem_singleton.1 hy; exact hx⟩
      · exact h g' (by simp [hg'])
    · intro g' hg'
      rcases List.mem_cons.1 hg' with rfl | hg'
      · exact hg
      · exact ih g' hg'
theorem thru_all (s : Sch) (d : Dcm) (env : List Mem) (typ : Str) (Q : Sl → Prop) (hQ : ∀ x, Q x → ∀ y ∈ x.sels, Q y) (hF : ∀ f ∈ d.frags, ∀ y ∈ f.sels, Q y) : ∀ (n N : Nat) (l : List Sl) (g : Gs), sumSize Sl.size l ≤ N → (∀ x ∈ l, Q x) → AllG Q g.out → AllG Q (thruM s d env typ n l g).out := by
  intro n
  induction n with
  | zero =>
    intro N
    induction N with
    | zero => intro l g h hl hg; cases l with
      | nil => rw [thruM_nil]; exact hg
      | cons x l => rw [sumSize] at h; have := x.size_pos; omega
    | succ N ih => intro l g h hl hg; cases l with
      | nil => rw [thruM_nil]; exact hg
      | cons x l =>
        rw [sumSize] at h
        have hx := x.size_eq
        rw [thruM_cons]
        refine ih l _ (by omega) (fun y hy => hl y (by simp [hy])) ?_
        have h1 := addK_all (hl x (by simp)) hg
        have h2 := ih x.sels g (by omega) (hQ x (hl x (by simp))) hg
        unfold stepM
        repeat' split
        all_goals first | exact hg | exact h1 | exact h2 | (exfalso; omega)
  | succ n ihn =>
    intro N
    induction N with
    | zero => intro l g h hl hg; cases l with
      | nil => rw [thruM_nil]; exact hg
      | cons x l => rw [sumSize] at h; have := x.size_pos; omega
    | succ N ih => intro l g h hl hg; cases l with
      | nil => rw [thruM_nil]; exact hg
      | cons x l =>
        rw [sumSize] at h
        have hx := x.size_eq
        rw [thruM_cons]
        refine ih l _ (by omega) (fun y hy => hl y (by simp [hy])) ?_
        have h1 := addK_all (hl x (by simp)) hg
        have h2 := ih x.sels g (by omega) (hQ x (hl x (by simp))) hg
        unfold stepM
        by_cases c0 : holdsB env x.dirs = false
        · rw [if_pos c0]; exact hg
        rw [if_neg c0]
        by_cases c1 : x.kind = 0
        · rw [if_pos c1]; exact h1
        rw [if_neg c1]
        by_cases c2 : x.kind = 1
        · rw [if_pos c2]
          by_cases c3 : x.name ∈ g.met
          · rw [if_pos c3]; exact hg
          rw [if_neg c3]
          cases hf : fragO d x.name with
          | none => exact hg
          | some f =>
            dsimp only
            split
            · exact ihn _ f.sels ⟨g.met ++ [x.name], g.out⟩ (Nat.le_refl _) (hF f (fragO_mem hf).1) hg
            · exact hg
        rw [if_neg c2]
        split
        · split
          · exact h2
          · exact hg
        · exact hg
theorem groups_all (s : Sch) (d : Dcm) (env : List Mem) (typ : Str) (Q : Sl → Prop) (hQ : ∀ x, Q x → ∀ y ∈ x.sels, Q y) (hF : ∀ f ∈ d.frags, ∀ y ∈ f.sels, Q y) (l : List Sl) (hl : ∀ x ∈ l, Q x) : AllG Q (groupsM s d env typ l) :=
  thru_all s d env typ Q hQ hF _ _ l ⟨[], []⟩ (Nat.le_refl _) hl (fun g hg => by cases hg)
theorem potG_out (d : Dcm) (g : Gs) : g.out.length ≤ potG d g ∧ ∀ x ∈ g.out, x.sels.length ≤ potG d g := by
  have h1 := sumSize_length (size := fun g : Grp => g.sels.length + 1) (fun _ => by omega) g.out
  refine ⟨by unfold potG potT totG; omega, fun x hx => ?_⟩
  have := sumSize_mem (size := fun g : Grp => g.sels.length + 1) hx
  unfold potG potT totG; omega
end Go.Proofs.YtmfmdehfbpkgdaaGreatDoor
namespace Go.Proofs.YtmfmdehfbpkgdaaGreatDoor
open Go Go.Av
attribute [local irreducible] HCode AOps PFn AFn Av.Step TStep
def frg0 : Frg := ⟨[], [], [], []⟩
def fragR (d : Dcm) (name : Str) : Frg × Bool := match fragO d name with
  | some f => (f, true)
  | none => (frg0, false)
theorem weak_frg0 {t1 t2 : Tk} : Weak (.agg [.str [], .str [], .slice [] t1, .slice [] t2]) frg0.enc :=
  Weak.agg (WeakL.cons (Weak.refl _) (WeakL.cons (Weak.refl _) (WeakL.cons (Weak.no (WeakL.refl _)) (WeakL.cons (Weak.no (WeakL.refl _)) (WeakL.refl _)))))
theorem gFrag1 (name : Str) (f : Frg) : PFn Tryz.prog 132 [f.enc, .rptr (.str name)] (.bool (f.name == name)) := by
  refine AFn.plain rfl (by simp [AV.closed, AV.closedL, Frg.closed]) (AFn.en [3] Tryz.func132 ?_)
  refine .gob ?_
  exact Fin.r0
theorem gFrag (d : Dcm) (name : Str) (hd : d.frags.length ≤ 68719476736) : PFn Tryz.prog 101 [d.enc, .str name] (.tup [(fragR d name).1.enc, .bool (fragR d name).2]) := by
  have hi := sIndexFFrg d.frags 132 [.rptr (.str name)] (fun f => f.name == name) (by omega) rfl (fun f _ => gFrag1 name f)
  refine AFn.plain (by simp [AV.closed, AV.closedL, Frg.closed]) (by simp [AV.closed, AV.closedL, Dcm.closed]) (AFn.eR [.cell 4 140, .tmp 5] Tryz.func101 ?_)
  unfold fragR fragO
  rcases idxFrom_spec (fun f : Frg => f.name == name) d.frags 0 with ⟨q1, q2⟩ | ⟨j, hj, q1, q2⟩
  · rw [q1] at hi
    rw [q2]
    have d1 : decide ((-1 : Int) < 0) = true := rfl
    refine .gob ?_
    exact FinR.ret1 rfl (Weak.tup (WeakL.cons weak_frg0 (WeakL.refl _)))
  · rw [q1, Nat.zero_add] at hi
    rw [q2]
    have d1 : decide ((j : Int) < 0) = false := decide_eq_false (by omega)
    have x1 := map_get' (f := Frg.enc) hj
    refine .gob ?_
    exact FinR.r0
theorem met_keys : ∀ l : List Str, strKeys (l.map fun x => (AV.str x, AV.bool true)) = true
  | [] => rfl
  | x :: l => by rw [List.map_cons, strKeys]; exact met_keys l
theorem met_look (k : Str) : ∀ l : List Str, (mlook k (l.map fun x => (AV.str x, AV.bool true))).getD (.bool false) = .bool (decide (k ∈ l))
  | [] => by simp [mlook]
  | x :: l => by
    rw [List.map_cons, mlook]
    by_cases e : x = k
    · rw [if_pos e]; simp [e]
    · rw [if_neg e, met_look k l]
      congr 2
      simp [Ne.symm e]
theorem met_put {k : Str} : ∀ {l : List Str}, k ∉ l → mput k (.bool true) (l.map fun x => (AV.str x, AV.bool true)) = (l ++ [k]).map fun x => (AV.str x, AV.bool true)
  | [], _ => rfl
  | x :: l, h => by
    have h1 : x ≠ k := fun e => h (by simp [e])
    rw [List.map_cons, mput, if_neg h1, met_put (l := l) (fun h2 => h (by simp [h2]))]; rfl
theorem gat_drop {s : Sch} {d : Dcm} {env : List Mem} {typ : Str} {f : FuncId} {args : List AV} {m R : Gs} (hl : m.out.length ≤ R.out.length)
    (h : AFn Tryz.prog f args (gatS s d env typ m) (fun e σ' => e = .ret (.tup []) ∧ σ'.B.take 2 = gatB s d env typ R.met R.out.length ∧ σ'.T = gatT R.out)) :
    AFn Tryz.prog f args (gatS s d env typ m) (fun e σ' => e = .ret (.tup []) ∧ σ' = gatS s d env typ R) := by
  refine AFn.dropped (AFn.mono h fun e σ1 hh => ⟨.tup [], 2, σ1.T.length, hh.1, Nat.le_refl _, ?_, rfl, ?_, ?_, rfl, ?_⟩)
  · rw [hh.2.2, gatT_len]
    show (gatT m.out).length ≤ _
    rw [gatT_len]; omega
  · rw [hh.2.1, hh.2.2, gatT_len]
    exact gatB_low _ _ _ _ _ _ _ (by omega)
  · rw [List.take_length, hh.2.2]
    exact gatT_low _ _
  · rw [List.take_length, hh.2.1, hh.2.2]; rfl
theorem gSpread (s : Sch) (d : Dcm) (env : List Mem) (typ : Str) (hs : s.size ≤ 1048576) (hdl : d.frags.length ≤ 1048576) (m R : Gs) (name : Str) (hlen : m.out.length ≤ R.out.length)
    (ha : name ∈ m.met → R = m) (hb : name ∉ m.met → (∀ f, fragO d name = some f → applB s typ f.on = false) → R = ⟨m.met ++ [name], m.out⟩)
    (hc : name ∉ m.met → ∀ f, fragO d name = some f → applB s typ f.on = true → AFn Tryz.prog 107 [.ptr 1 0, .slice (f.sels.map Sl.enc) .no] (gatS s d env typ ⟨m.met ++ [name], m.out⟩) (fun e σ' => e = .ret (.tup []) ∧ σ' = gatS s d env typ R)) :
    AFn Tryz.prog 139 [.ptr 1 0, .str name] (gatS s d env typ m) (fun e σ' => e = .ret (.tup []) ∧ σ' = gatS s d env typ R) := by
  have hf := gFrag d name (by omega)
  have hlo := met_look name m.met
  have hsk := met_keys m.met
  have hset : name ∉ m.met → ∀ (c : Ob) (B1 : List Ob), List.set (.map (m.met.map fun x => (AV.str x, AV.bool true)) :: c :: B1) 0 (.map (mput name (.bool true) (m.met.map fun x => (AV.str x, AV.bool true)))) = .map ((m.met ++ [name]).map fun x => (AV.str x, AV.bool true)) :: c :: B1 := fun h c B1 => by
    rw [met_put h]; rfl
  refine gat_drop hlen (AFn.en [] Tryz.func139 ?_)
  unfold fragR at hf
  by_cases c1 : name ∈ m.met
  · rw [decide_eq_true c1] at hlo
    rw [ha c1]
    unfold gatS gatB gatCs
    repeat' first | refine .s1 ?_ | (refine .q ?_ ?_ <;> intro hc) | refine A.nlP rfl ?_ | refine A.lookup Tryz.underlying199 Tryz.underlying9 rfl rfl rfl rfl hsk hlo ?_ | fail
    exact ⟨rfl, rfl, rfl⟩
  rw [decide_eq_false c1] at hlo
  have hset' := hset c1
  cases hfr : fragO d name with
  | none =>
    rw [hfr] at hf
    rw [hb c1 (fun f hf => by rw [hfr] at hf; cases hf)]
    unfold gatS gatB gatCs
    repeat' first | refine .s1 ?_ | (refine .q ?_ ?_ <;> intro hc) | refine A.nlP rfl ?_ | refine A.lookup Tryz.underlying199 Tryz.underlying9 rfl rfl rfl rfl hsk hlo ?_ | refine A.mapUpdate Tryz.underlying199 Tryz.underlying9 rfl rfl rfl rfl hsk (hset' _ _) ?_ | fail
    exact ⟨rfl, rfl, rfl⟩
  | some f =>
    rw [hfr] at hf
    dsimp only at hf
    have hap := colApplies s typ f.on (by omega)
    cases c2 : applB s typ f.on with
    | false =>
      rw [c2] at hap
      rw [hb c1 (fun f' hf' => by rw [hfr] at hf'; cases hf'; exact c2)]
      unfold gatS gatB gatCs
      repeat' first | refine .s1 ?_ | (refine .q ?_ ?_ <;> intro hc) | refine A.nlP rfl ?_ | refine A.lookup Tryz.underlying199 Tryz.underlying9 rfl rfl rfl rfl hsk hlo ?_ | refine A.mapUpdate Tryz.underlying199 Tryz.underlying9 rfl rfl rfl rfl hsk (hset' _ _) ?_ | fail
      exact ⟨rfl, rfl, rfl⟩
    | true =>
      rw [c2] at hap
      have ht := hc c1 f hfr c2
      have hTl : (gatT m.out).length ≤ (gatT R.out).length := by rw [gatT_len, gatT_len]; omega
      have hb0 := gatB_low s d env typ (m.met ++ [name]) m.out.length (gatT m.out).length (by rw [gatT_len]; omega)
      have hb1 := gatB_low s d env typ R.met R.out.length (gatT R.out).length (by rw [gatT_len]; omega)
      have hla : AV.lowL 2 (gatT m.out).length [.ptr 1 0, .slice (f.sels.map Sl.enc) .no] = true := by simp [AV.lowL, AV.low]
      unfold gatS at ht ⊢
      unfold gatB gatCs
      repeat' first | refine .s1 ?_ | (refine .q ?_ ?_ <;> intro hc) | refine A.nlP rfl ?_ | refine A.lookup Tryz.underlying199 Tryz.underlying9 rfl rfl rfl rfl hsk hlo ?_ | refine A.mapUpdate Tryz.underlying199 Tryz.underlying9 rfl rfl rfl rfl hsk (hset' _ _) ?_ | refine A.callPreB rfl ht rfl rfl hTl hb0 (gatT_low _ _) hb1 (gatT_low _ _) hla rfl (WeakL.refl _) ?_ | fail
      exact ⟨rfl, rfl, rfl⟩
def ThruOk (s : Sch) (d : Dcm) (env : List Mem) (typ : Str) (n : Nat) (l : List Sl) (m : Gs) : Prop :=
  (unmet d m.met).length ≤ n → potG d m + sumSize Sl.size l ≤ 68719476736 →
    AFn Tryz.prog 107 [.ptr 1 0, .slice (l.map Sl.enc) .no] (gatS s d env typ m) (fun e σ' => e = .ret (.tup []) ∧ σ' = gatS s d env typ (thruM s d env typ n l m))
theorem thru_len (s : Sch) (d : Dcm) (env : List Mem) (typ : Str) : ∀ (n : Nat) (N : Nat) (l : List Sl) (g : Gs), sumSize Sl.size l ≤ N → g.out.length ≤ (thruM s d env typ n l g).out.length := by
  intro n
  induction n with
  | zero =>
    intro N
    induction N with
    | zero => intro l g h; cases l with
      | nil => rw [thruM_nil]; exact Nat.le_refl _
      | cons x l => rw [sumSize] at h; have := x.size_pos; omega
    | succ N ih => intro l g h; cases l with
      | nil => rw [thruM_nil]; exact Nat.le_refl _
      | cons x l =>
        rw [sumSize] at h
        have hx := x.size_eq
        rw [thruM_cons]
        refine Nat.le_trans ?_ (ih l _ (by omega))
        have h1 := addK_len x g.out
        have h2 := ih x.sels g (by omega)
        unfold stepM
        repeat' split
        all_goals first | exact Nat.le_refl _ | exact h1 | exact h2 | (exfalso; omega)
  | succ n ihn =>
    intro N
    induction N with
    | zero => intro l g h; cases l with
      | nil => rw [thruM_nil]; exact Nat.le_refl _
      | cons x l => rw [sumSize] at h; have := x.size_pos; omega
    | succ N ih => intro l g h; cases l with
      | nil => rw [thruM_nil]; exact Nat.le_refl _
      | cons x l =>
        rw [sumSize] at h
        have hx := x.size_eq
        rw [thruM_cons]
        refine Nat.le_trans ?_ (ih l _ (by omega))
        have h1 := addK_len x g.out
        have h2 := ih x.sels g (by omega)
        have h3 := fun f : Frg => ihn _ f.sels ⟨g.met ++ [x.name], g.out⟩ (Nat.le_refl _)
        unfold stepM
        by_cases c0 : holdsB env x.dirs = false
        · rw [if_pos c0]; exact Nat.le_refl _
        rw [if_neg c0]
        by_cases c1 : x.kind = 0
        · rw [if_pos c1]; exact h1
        rw [if_neg c1]
        by_cases c2 : x.kind = 1
        · rw [if_pos c2]
          by_cases c3 : x.name ∈ g.met
          · rw [if_pos c3]; exact Nat.le_refl _
          rw [if_neg c3]
          cases fragO d x.name with
          | none => exact Nat.le_refl _
          | some f =>
            dsimp only
            split
            · exact h3 f
            · exact Nat.le_refl _
        rw [if_neg c2]
        split
        · split
          · exact h2
          · exact Nat.le_refl _
        · exact Nat.le_refl _
theorem stepM_met {s : Sch} {d : Dcm} {env : List Mem} {typ : Str} {n : Nat} {x : Sl} {m : Gs} (hk : x.kind = 1) (hh : holdsB env x.dirs = true) (h : x.name ∈ m.met) : stepM s d env typ n x m = m := by
  unfold stepM
  rw [if_neg (by simp [hh]), if_neg (by rw [hk]; decide), if_pos hk, if_pos h]
theorem stepM_none {s : Sch} {d : Dcm} {env : List Mem} {typ : Str} {n : Nat} {x : Sl} {m : Gs} (hk : x.kind = 1) (hh : holdsB env x.dirs = true) (h : x.name ∉ m.met) (hf : ∀ f, fragO d x.name = some f → applB s typ f.on = false) :
    stepM s d env typ n x m = ⟨m.met ++ [x.name], m.out⟩ := by
  unfold stepM
  rw [if_neg (by simp [hh]), if_neg (by rw [hk]; decide), if_pos hk, if_neg h]
  cases hfr : fragO d x.name with
  | none => rfl
  | some f => dsimp only; rw [if_neg (by simp [hf f hfr])]
theorem stepM_into {s : Sch} {d : Dcm} {env : List Mem} {typ : Str} {n : Nat} {x : Sl} {m : Gs} {f : Frg} (hk : x.kind = 1) (hh : holdsB env x.dirs = true) (h : x.name ∉ m.met) (hf : fragO d x.name = some f) (ha : applB s typ f.on = true) :
    stepM s d env typ (n + 1) x m = thruM s d env typ n f.sels ⟨m.met ++ [x.name], m.out⟩ := by
  unfold stepM
  rw [if_neg (by simp [hh]), if_neg (by rw [hk]; decide), if_pos hk, if_neg h, hf]
  dsimp only
  rw [if_pos ha]
theorem gThru_step (s : Sch) (d : Dcm) (env : List Mem) (typ : Str) (hs : s.size ≤ 1048576) (hdl : d.frags.length ≤ 1048576) (n : Nat) (ihn : ∀ k, n = k + 1 → ∀ l m, ThruOk s d env typ k l m)
    (x : Sl) (m : Gs) (hu : (unmet d m.met).length ≤ n) (hp : potG d m + x.size ≤ 68719476736) (hk : x.kind = 1) (hh : holdsB env x.dirs = true) :
    AFn Tryz.prog 139 [.ptr 1 0, .str x.name] (gatS s d env typ m) (fun e σ' => e = .ret (.tup []) ∧ σ' = gatS s d env typ (stepM s d env typ n x m)) := by
  have hlen : m.out.length ≤ (stepM s d env typ n x m).out.length := by
    have := thru_len s d env typ n (sumSize Sl.size [x]) [x] m (Nat.le_refl _)
    rwa [thruM_cons, thruM_nil] at this
  refine gSpread s d env typ hs hdl m _ x.name hlen (fun h => stepM_met hk hh h) (fun h hf => stepM_none hk hh h hf) (fun h f hf hap => ?_)
  obtain ⟨hm, hfn⟩ := fragO_mem hf
  have h1 := unmet_one d m.met hm (by rw [hfn]; exact h)
  have h2 := unmet_wone d m.met hm (by rw [hfn]; exact h) (fun f : Frg => sumSize Sl.size f.sels)
  rw [hfn] at h1 h2
  have e2 : potG d m = totG m.out + sumSize (fun f : Frg => sumSize Sl.size f.sels) (unmet d m.met) := rfl
  have e3 : potG d ⟨m.met ++ [x.name], m.out⟩ = totG m.out + sumSize (fun f : Frg => sumSize Sl.size f.sels) (unmet d (m.met ++ [x.name])) := rfl
  cases n with
  | zero => omega
  | succ k =>
    rw [stepM_into hk hh h hf hap]
    exact ihn k rfl f.sels ⟨m.met ++ [x.name], m.out⟩ (by dsimp only; omega) (by omega)
theorem gThruN (s : Sch) (d : Dcm) (env : List Mem) (typ : Str) (hs : s.size ≤ 1048576) (hdl : d.frags.length ≤ 1048576) (he : env.length ≤ 1048576) (n : Nat) (ihn : ∀ k, n = k + 1 → ∀ l m, ThruOk s d env typ k l m) :
    ∀ (N : Nat) (l : List Sl) (m : Gs), sumSize Sl.size l ≤ N → ThruOk s d env typ n l m
  | N, l, m, hN => fun hu hp => by
    have hll := sumSize_length Sl.size_pos l
    refine gat_drop (thru_len s d env typ n _ l m (Nat.le_refl _)) (AFn.en [] Tryz.func107 ?_)
    refine .go ?_
    change HCode _ _ _ _ _ _ _
    refine HCode.loopG (fun n' s' σ => ∃ k : Nat, n' = l.length - k ∧ k ≤ l.length ∧ σ = gatS s d env typ (thruM s d env typ n (l.take k) m) ∧ s' = [(8, .int .i64 k), (7, .int .i64 l.length), (6, .slice (l.map Sl.enc) .no), (0, .ptr 1 0)])
      (s0 := [(8, .int .i64 (0 : Nat)), (7, .int .i64 l.length), (6, .slice (l.map Sl.enc) .no), (0, .ptr 1 0)]) ⟨rfl, rfl, rfl, rfl, trivial⟩ ⟨0, rfl, Nat.zero_le _, by rw [List.take_zero, thruM_nil], rfl⟩ ?_
    rintro n' s' σ ⟨k, rfl, hk, rfl, rfl⟩
    by_cases h1 : k < l.length
    · have d1 : decide ((k : Int) < (l.length : Int)) = true := by simp [h1]
      have x1 := map_get' (f := Sl.enc) h1
      have hR := thruM_take s d env typ n h1 m
      obtain ⟨p1, p2⟩ := pot_thru s d env typ n (l.take k) m
      have hst := sum_take (f := Sl.size) h1
      have hsm := sum_mono Sl.size l (k + 1)
      have hlen := thru_len s d env typ n _ [l[k]] (thruM s d env typ n (l.take k) m) (Nat.le_refl _)
      rw [thruM_cons, thruM_nil, ← hR] at hlen
      generalize hst' : thruM s d env typ n (l.take k) m = st at *
      generalize hRR : thruM s d env typ n (l.take (k + 1)) m = R at *
      have hxs := l[k].size_eq
      have hgo : sumSize Sl.size l[k].sels < N := by omega
      have hil : ThruOk s d env typ n l[k].sels st := gThruN s d env typ hs hdl he n ihn (N - 1) l[k].sels st (by omega)
      have hstep := gThru_step s d env typ hs hdl n ihn l[k] st (by omega) (by omega)
      have hds := sumSize_length (size := Dirc.size) (fun d => by unfold Dirc.size; omega) l[k].dirs
      generalize l[k] = x at *
      have hho := colHolds env x.dirs (by omega) (by omega)
      obtain ⟨o1, o2⟩ := potG_out d st
      have hfld := gField s d env typ st x (by omega) (fun g hg => by have := o2 g hg; omega)
      have hapl := colApplies s typ x.on (by omega)
      have hTl : (gatT st.out).length ≤ (gatT R.out).length := by rw [gatT_len, gatT_len]; omega
      have hb0 := gatB_low s d env typ st.met st.out.length (gatT st.out).length (by rw [gatT_len]; omega)
      have hb1 := gatB_low s d env typ R.met R.out.length (gatT R.out).length (by rw [gatT_len]; omega)
      have fin : ∀ (B1 : List Ob) (s1 : Slots), Av.Sub [(8, .int .i64 ((k + 1 : Nat) : Int)), (7, .int .i64 l.length), (6, .slice (l.map Sl.enc) .no), (0, .ptr 1 0)] s1 →
          ∃ m', m' < l.length - k ∧ ∃ s2 nB mT, (gatS s d env typ st).B.length ≤ nB ∧ (gatS s d env typ st).T.length ≤ mT ∧ Av.Sub s2 s1 ∧ belowS nB mT s2 = true ∧ belowB nB mT ((gatB s d env typ R.met R.out.length ++ B1).take nB) = true ∧ belowT nB mT ((gatT R.out).take mT) = true ∧
            ∃ k' : Nat, m' = l.length - k' ∧ k' ≤ l.length ∧ (⟨(gatB s d env typ R.met R.out.length ++ B1).take nB, (gatT R.out).take mT⟩ : St) = gatS s d env typ (thruM s d env typ n (l.take k') m) ∧ s2 = [(8, .int .i64 k'), (7, .int .i64 l.length), (6, .slice (l.map Sl.enc) .no), (0, .ptr 1 0)] := fun B1 s1 hsub => by
        refine ⟨l.length - (k + 1), by omega, _, 2, (gatT R.out).length, Nat.le_refl _, hTl, hsub, by simp [belowS, AV.low], hb1, by rw [List.take_length]; exact gatT_low _ _, k + 1, rfl, by omega, ?_, rfl⟩
        rw [List.take_length, hRR]; rfl
      cases c0 : holdsB env x.dirs with
      | false =>
        rw [c0] at hho
        have eR : R = st := by rw [hR]; unfold stepM; rw [if_pos c0]
        subst eR
        unfold gatS gatB gatCs
        repeat' first | refine .s1 ?_ | (refine .q ?_ ?_ <;> intro hc) | refine A.nlP rfl ?_ | fail
        exact fin _ _ ⟨rfl, rfl, rfl, rfl, trivial⟩
      | true =>
        rw [c0] at hho
        by_cases c1 : x.kind = 0
        · have e1 : (x.kind == 0) = true := by rw [c1]; rfl
          have eR : R = ⟨st.met, addK x st.out⟩ := by rw [hR]; unfold stepM; rw [if_neg (by simp [c0]), if_pos c1]
          rw [← eR] at hfld
          have hla : AV.lowL 2 (gatT st.out).length [.ptr 1 0, x.enc] = true := by simp [AV.lowL, AV.low]
          unfold gatS at hfld ⊢
          unfold gatB gatCs
          repeat' first | refine .s1 ?_ | (refine .q ?_ ?_ <;> intro hc) | refine A.nlP rfl ?_ | refine A.callPreB rfl hfld rfl rfl hTl hb0 (gatT_low _ _) hb1 (gatT_low _ _) hla rfl (WeakL.refl _) ?_ | fail
          exact fin _ _ ⟨rfl, rfl, rfl, rfl, trivial⟩
        have e1 : (x.kind == 0) = false := by simpa using c1
        by_cases c2 : x.kind = 1
        · have e2 : (x.kind == 1) = true := by rw [c2]; rfl
          have hsp := hstep c2 c0
          rw [← hR] at hsp
          have hla : AV.lowL 2 (gatT st.out).length [.ptr 1 0, .str x.name] = true := by simp [AV.lowL, AV.low]
          unfold gatS at hsp ⊢
          unfold gatB gatCs
          repeat' first | refine .s1 ?_ | (refine .q ?_ ?_ <;> intro hc) | refine A.nlP rfl ?_ | refine A.callPreB rfl hsp rfl rfl hTl hb0 (gatT_low _ _) hb1 (gatT_low _ _) hla rfl (WeakL.refl _) ?_ | fail
          exact fin _ _ ⟨rfl, rfl, rfl, rfl, trivial⟩
        have e2 : (x.kind == 1) = false := by simpa using c2
        by_cases c3 : x.kind = 2
        · have e3 : (x.kind == 2) = true := by rw [c3]; rfl
          cases c4 : applB s typ x.on with
          | true =>
            rw [c4] at hapl
            have eR : R = thruM s d env typ n x.sels st := by rw [hR]; unfold stepM; rw [if_neg (by simp [c0]), if_neg c1, if_neg c2, if_pos c3, if_pos c4]
            have ht := hil (by omega) (by omega)
            rw [← eR, ← x.sv_eq] at ht
            have hla : AV.lowL 2 (gatT st.out).length [.ptr 1 0, .slice x.sv .no] = true := by simp [AV.lowL, AV.low]
            unfold gatS at ht ⊢
            unfold gatB gatCs
            repeat' first | refine .s1 ?_ | (refine .q ?_ ?_ <;> intro hc) | refine A.nlP rfl ?_ | refine A.callPreB rfl ht rfl rfl hTl hb0 (gatT_low _ _) hb1 (gatT_low _ _) hla rfl (WeakL.refl _) ?_ | fail
            exact fin _ _ ⟨rfl, rfl, rfl, rfl, trivial⟩
          | false =>
            rw [c4] at hapl
            have eR : R = st := by rw [hR]; unfold stepM; rw [if_neg (by simp [c0]), if_neg c1, if_neg c2, if_pos c3, if_neg (by simp [c4])]
            subst eR
            unfold gatS gatB gatCs
            repeat' first | refine .s1 ?_ | (refine .q ?_ ?_ <;> intro hc) | refine A.nlP rfl ?_ | fail
            exact fin _ _ ⟨rfl, rfl, rfl, rfl, trivial⟩
        · have e3 : (x.kind == 2) = false := by simpa using c3
          have eR : R = st := by rw [hR]; unfold stepM; rw [if_neg (by simp [c0]), if_neg c1, if_neg c2, if_neg c3]
          subst eR
          unfold gatS gatB gatCs
          repeat' first | refine .s1 ?_ | (refine .q ?_ ?_ <;> intro hc) | refine A.nlP rfl ?_ | fail
          exact fin _ _ ⟨rfl, rfl, rfl, rfl, trivial⟩
    · have d1 : decide ((k : Int) < (l.length : Int)) = false := by simp; omega
      obtain rfl : k = l.length := by omega
      rw [List.take_length]
      unfold gatS gatB gatCs
      refine .go ?_
      exact ⟨rfl, rfl, rfl⟩
termination_by N => N
theorem gThrough (s : Sch) (d : Dcm) (env : List Mem) (typ : Str) (hs : s.size ≤ 1048576) (hdl : d.frags.length ≤ 1048576) (he : env.length ≤ 1048576) : ∀ (n : Nat) (l : List Sl) (m : Gs), ThruOk s d env typ n l m
  | 0, l, m => gThruN s d env typ hs hdl he 0 (fun k h => by omega) _ l m (Nat.le_refl _)
  | n + 1, l, m => gThruN s d env typ hs hdl he (n + 1) (fun k h l m => by obtain rfl : n = k := by omega
                                                                           exact gThrough s d env typ hs hdl he n l m) _ l m (Nat.le_refl _)
theorem gFreeze (B : List Ob) (v : AV) : ∀ (done rest : List Grp),
    Turn ⟨B, .vec (done.map Grp.enc ++ gEncs done.length rest) :: (done.map (fun g => Tok.len (g.sels.length + 1)) ++ rest.map fun g => Tok.vec (g.sels.map Sl.enc))⟩ v
      ⟨B, .vec ((done ++ rest).map Grp.enc) :: (done ++ rest).map (fun g => Tok.len (g.sels.length + 1))⟩ v
  | done, [] => by
    rw [gEncs, List.map_nil, List.append_nil, List.append_nil, List.append_nil]
    exact Turn.refl _ _
  | done, g :: rest => by
    have ih := gFreeze B v (done ++ [g]) rest
    refine Turn.trans ?_ (by rw [List.append_assoc] at ih; exact ih)
    have hdl : (done.map Grp.enc).length = done.length := List.length_map _
    have hdt : (done.map (fun g => Tok.len (g.sels.length + 1))).length = done.length := List.length_map _
    have hx : (done.map Grp.enc ++ gEncs done.length (g :: rest))[done.length]? = some (gEnc done.length g) := by
      rw [List.getElem?_append_right (by omega), hdl, Nat.sub_self, gEncs]; rfl
    have ht : (Tok.vec (done.map Grp.enc ++ gEncs done.length (g :: rest)) :: (done.map (fun g => Tok.len (g.sels.length + 1)) ++ (g :: rest).map fun g => Tok.vec (g.sels.map Sl.enc)))[done.length + 1]? = some (.vec (g.sels.map Sl.enc)) := by
      rw [List.getElem?_cons_succ, List.getElem?_append_right (by omega), hdt, Nat.sub_self]; rfl
    have hfr := Turn.freeze (σ := ⟨B, Tok.vec (done.map Grp.enc ++ gEncs done.length (g :: rest)) :: (done.map (fun g => Tok.len (g.sels.length + 1)) ++ (g :: rest).map fun g => Tok.vec (g.sels.map Sl.enc))⟩)
      (k := done.length + 1) (z := 7) (n := g.sels.length) (lo := 0) (hi := g.sels.length) ht (List.length_map _) (setTK_eq (by simp))
    rw [List.drop_zero, List.take_of_length_le (by simp)] at hfr
    have hin := Turn.inner (z0 := v) (k := 0) (i := done.length) (c := 1) rfl hx rfl hfr rfl (setTK_eq (by simp))
    have e1 : ∀ (n : Nat) (y : AV), (done.map Grp.enc ++ gEncs n (g :: rest)).set done.length y = done.map Grp.enc ++ (y :: gEncs (n + 1) rest) := fun n y => by
      rw [List.set_append, if_neg (by omega), hdl, Nat.sub_self, gEncs]; rfl
    have e2 : ∀ (y : Tok), (done.map (fun g => Tok.len (g.sels.length + 1)) ++ (g :: rest).map fun g => Tok.vec (g.sels.map Sl.enc)).set done.length y = done.map (fun g => Tok.len (g.sels.length + 1)) ++ (y :: rest.map fun g => Tok.vec (g.sels.map Sl.enc)) := fun y => by
      rw [List.set_append, if_neg (by omega), hdt, Nat.sub_self]
      rfl
    rw [List.set_cons_succ, e2, List.set_cons_zero, e1] at hin
    rw [List.map_append, List.map_append, List.append_assoc, List.append_assoc, List.length_append]
    exact hin
theorem gGroups (s : Sch) (d : Dcm) (env : List Mem) (typ : Str) (l : List Sl) (hs : s.size ≤ 1048576) (hd : sumSize (fun f : Frg => sumSize Sl.size f.sels) d.frags + sumSize Sl.size l ≤ 68719476736) (hdl : d.frags.length ≤ 1048576) (he : env.length ≤ 1048576) :
    PFn Tryz.prog 65 [s.enc, d.enc, .slice (env.map Mem.enc) .no, .str typ, .slice (l.map Sl.enc) .no] (.slice ((groupsM s d env typ l).map Grp.enc) .no) := by
  have hth := gThrough s d env typ hs hdl he d.frags.length l ⟨[], []⟩ (List.length_filter_le _ _) (by
    have : potG d ⟨[], []⟩ = sumSize (fun f : Frg => sumSize Sl.size f.sels) d.frags := by
      unfold potG potT
      rw [show unmet d [] = d.frags from List.filter_eq_self.2 (by simp)]
      simp [totG, sumSize]
    omega)
  unfold groupsM
  have hlen : (gatT ([] : List Grp)).length ≤ (gatT (thruM s d env typ d.frags.length l ⟨[], []⟩).out).length := by rw [gatT_len, gatT_len]; simp
  generalize thruM s d env typ d.frags.length l ⟨[], []⟩ = R at *
  have hb0 := gatB_low s d env typ [] 0 (gatT []).length (by rw [gatT_len]; omega)
  have hb1 := gatB_low s d env typ R.met R.out.length (gatT R.out).length (by rw [gatT_len]; omega)
  have hla : AV.lowL 2 (gatT []).length [.ptr 1 0, .slice (l.map Sl.enc) .no] = true := by simp [AV.lowL, AV.low]
  unfold gatS at hth
  have hfz := gFreeze (gatB s d env typ R.met R.out.length ++ []) (.vec 0 2 R.out.length 0 R.out.length) [] R.out
  have hfr := Turn.freeze (σ := ⟨gatB s d env typ R.met R.out.length ++ [], .vec (R.out.map Grp.enc) :: R.out.map (fun g => Tok.len (g.sels.length + 1))⟩) (k := 0) (z := 2) (n := R.out.length) (lo := 0) (hi := R.out.length) rfl (List.length_map _) rfl
  rw [List.drop_zero, List.take_of_length_le (by simp)] at hfr
  refine AFn.plainT (by simp [AV.closed, Grp.closedL]) (by simp [AV.closed, AV.closedL, Sch.closed, Dcm.closed, Mem.closedL, Sl.closedL]) (AFn.en [10] Tryz.func65 ?_)
  repeat' first | refine AOps.bx (v := .agg [_, _, _, _, _, _, _, _, .map 0]) ?_ | refine .br ?_ | refine HCode.turnB 1 7 rfl rfl (Turn.vadopt (z := 2) rfl rfl rfl) rfl ?_ | refine .s1 ?_ | (refine .q ?_ ?_ <;> intro hc) | refine A.makeMap rfl rfl ?_ | refine A.nlP rfl ?_ | refine A.callPreB (B := []) rfl hth rfl rfl hlen hb0 (gatT_low _ _) hb1 (gatT_low _ _) hla rfl (WeakL.refl _) ?_ | fail
  exact ⟨_, _, rfl, Turn.trans hfz hfr⟩
theorem gBelow (l : List Sl) (hl : sumSize Sl.size l ≤ 68719476736) : PFn Tryz.prog 75 [.slice (l.map Sl.enc) .no] (.slice ((belowM' l).map Sl.enc) .no) := by
  have hll := sumSize_length Sl.size_pos l
  have hlen : ∀ k, k ≤ l.length → (belowM' (l.take k)).length ≤ sumSize Sl.size (l.take k) := fun k _ => by
    generalize l.take k = q
    induction q with
    | nil => simp [belowM', sumSize]
    | cons x q ih =>
      have h1 := sumSize_length Sl.size_pos x.sels
      have h2 := x.size_eq
      have h3 : belowM' (x :: q) = x.sels ++ belowM' q := by simp [belowM']
      rw [h3, List.length_append, sumSize]; omega
  refine AFn.plain (by simp [AV.closed, Sl.closedL]) (by simp [AV.closed, AV.closedL, Sl.closedL]) (AFn.en [2] Tryz.func75 ?_)
  refine .go ?_
  change HCode _ _ _ _ _ _ _
  refine HCode.adopt 3 true 7 rfl rfl rfl rfl rfl rfl ?_
  refine HCode.forK l.length (fun k => [(8, .int .i64 k), (7, .int .i64 l.length), (6, .slice (l.map Sl.enc) .no), (3, .slice ((belowM' (l.take k)).map Sl.enc) (.own 0 7))]) (fun k => ⟨[], [.len (belowM' (l.take k)).length]⟩) (fun _ => True) ⟨rfl, rfl, rfl, rfl, trivial⟩ rfl trivial fun k hk _ => ?_
  by_cases h1 : k < l.length
  · have d1 : decide ((k : Int) < (l.length : Int)) = true := by simp [h1]
    have x1 := map_get' (f := Sl.enc) h1
    have hb : belowM' (l.take (k + 1)) = belowM' (l.take k) ++ l[k].sels := by
      rw [List.take_succ_eq_append_getElem h1]; unfold belowM'; rw [List.flatMap_append, List.flatMap_cons, List.flatMap_nil, List.append_nil]
    have hl1 := hlen k (by omega)
    have hsm := sum_mono Sl.size l k
    have hxl := sumSize_mem (size := Sl.size) (List.getElem_mem h1)
    have hsl := sumSize_length Sl.size_pos l[k].sels
    have hse := l[k].size_eq
    have hvl := l[k].sv_len
    have hve := l[k].sv_eq
    generalize l[k] = x at *
    repeat' first | refine .s1 ?_ | (refine .q ?_ ?_ <;> intro hc) | refine A.append (n := (belowM' (l.take k)).length) rfl rfl rfl rfl rfl rfl rfl rfl (List.length_map _) (by rw [hve]; exact Sl.fitsAll _) (by rw [hvl]; dsimp only; omega) (by rw [hvl]; omega) rfl ?_ | fail
    refine ⟨h1, ⟨rfl, rfl, rfl, ?_, trivial⟩, by simp [-List.map_take, belowS, AV.low], by simp [belowB, belowT, Ob.low, Tok.low], ?_, trivial⟩
    · rw [hb, List.map_append, ← hve]; rfl
    · rw [hb, List.length_append, ← hvl]; rfl
  · have d1 : decide ((k : Int) < (l.length : Int)) = false := by simp; omega
    obtain rfl : k = l.length := by omega
    rw [List.take_length]
    refine .go ?_
    exact Fin.ret1 rfl (Weak.no (WeakL.refl _))
def mkE (s : Sch) (wr within : Bool) (env : List Mem) : AV := .agg [.slice (s.defs.map Dfn.enc) .no, .str s.query, .str s.mutation, .bool wr, .bool within, .slice (env.map Mem.enc) .no]
theorem mkE_closed (s : Sch) (wr within : Bool) (env : List Mem) : (mkE s wr within env).closed = true := by simp [mkE, AV.closed, AV.closedL, Dfn.closedL, Mem.closedL]
def VE.enc (x : Val × Int) : AV := .tup [x.1.enc, .int .i64 x.2]
theorem VE.closed (x : Val × Int) : (VE.enc x).closed = true := by simp [VE.enc, AV.closed, AV.closedL, Val.closed]
theorem weak_ve0 {e : Int} {t1 t2 : Tk} : Weak (.tup [.agg [.int .i64 0, .int .i64 0, .str [], .slice [] t1, .slice [] t2], .int .i64 e]) (VE.enc (val0, e)) := Weak.tup (WeakL.cons weak_flatV (WeakL.refl _))
theorem envO_getG (name : Str) : ∀ env : List Mem, getG name env = match envO env name with | some x => (x, true) | none => (val0, false)
  | [] => rfl
  | m :: l => by
    have ih := envO_getG name l
    unfold envO at ih ⊢
    rw [getG, List.find?_cons]
    cases c : m.name == name with
    | true => simp
    | false => simp only [Bool.false_eq_true, if_false]; exact ih
theorem cThere (s : Sch) (wr within : Bool) (env : List Mem) (v : Val) (he : env.length ≤ 9223372036854775807) : PFn Tryz.prog 196 [mkE s wr within env, v.enc] (.bool (thereB wr env v)) := by
  have hg := get v.s env he
  rw [envO_getG] at hg
  refine AFn.plain rfl (by simp [AV.closed, AV.closedL, mkE_closed, Val.closed]) (AFn.en [4] Tryz.func196 ?_)
  unfold thereB
  cases wr with
  | false =>
    refine .gob ?_
    exact Fin.r0
  | true =>
    by_cases k8 : v.kind = 8
    · have q8 : (v.kind != 8) = false := by simp [k8]
      have q8' : (v.kind == 8) = true := by simp [k8]
      rw [q8']
      cases ho : envO env v.s with
      | none =>
        rw [ho] at hg
        refine .gob ?_
        exact Fin.r0
      | some x =>
        rw [ho] at hg
        refine .gob ?_
        exact Fin.r0
    · have q8 : (v.kind != 8) = true := by simp [k8]
      have q8' : (v.kind == 8) = false := by simp [k8]
      rw [q8']
      refine .gob ?_
      exact Fin.r0
theorem cScalar (name : Str) (v : Val) (h0 : -9223372036854775808 ≤ v.n) (h1 : v.n ≤ 9223372036854775807) : PFn Tryz.prog 229 [.str name, v.enc] (VE.enc (scalMk name v)) := by
  have hi := formatInt v.n h0 h1
  have ht := text (Lib.itoa v.n)
  refine AFn.plain (VE.closed _) (by simp [AV.closed, AV.closedL, Val.closed]) (AFn.eR [.cell 4 38, .tmp 5] Tryz.func229 ?_)
  unfold scalMk
  have out : ∀ {b c d e : Bool}, True := trivial
  by_cases k2 : v.kind = 2
  · have q2 : (v.kind == 2) = true := by simp [k2]
    have q1 : (v.kind == 1) = false := by simp [k2]
    have q4 : (v.kind == 4) = false := by simp [k2]
    by_cases n1 : name = sInt
    · have b1 : (name == [73, 110, 116]) = true := by rw [n1]; rfl
      have b2 : (name == [73, 68]) = false := by rw [n1]; rfl
      by_cases hr : v.n < -2147483648
      · have r1 : decide (v.n < -2147483648) = true := decide_eq_true hr
        rw [if_pos ⟨n1, k2, .inl hr⟩]
        refine .gob ?_
        exact FinR.ret1 rfl weak_ve0
      · have r1 : decide (v.n < -2147483648) = false := decide_eq_false hr
        by_cases hr2 : 2147483647 < v.n
        · have r2 : decide (2147483647 < v.n) = true := decide_eq_true hr2
          rw [if_pos ⟨n1, k2, .inr hr2⟩]
          refine .gob ?_
          exact FinR.ret1 rfl weak_ve0
        · have r2 : decide (2147483647 < v.n) = false := decide_eq_false hr2
          rw [if_neg (fun h => h.2.2.elim hr hr2), if_neg (fun h => by rw [n1] at h; exact absurd h.1 (by decide)), if_pos (.inl ⟨n1, k2⟩)]
          refine .gob ?_
          exact FinR.r0
    · have b1 : (name == [73, 110, 116]) = false := by simpa [sInt] using n1
      rw [if_neg (fun h => n1 h.1)]
      by_cases n3 : name = sID
      · have b3 : (name == [73, 68]) = true := by rw [n3]; rfl
        rw [if_pos ⟨n3, k2⟩]
        refine .gob ?_
        exact FinR.r0
      · have b3 : (name == [73, 68]) = false := by simpa [sID] using n3
        rw [if_neg (fun h => n3 h.1), if_neg (by rintro (h | h | h) <;> first | exact n1 h.1 | omega)]
        cases b4 : (name == [66, 111, 111, 108, 101, 97, 110]) <;> cases b5 : (name == [83, 116, 114, 105, 110, 103])
        all_goals
          refine .gob ?_
          exact FinR.ret1 rfl weak_ve0
  · have q2 : (v.kind == 2) = false := by simp [k2]
    rw [if_neg (fun h => k2 h.2.1), if_neg (fun h => k2 h.2)]
    by_cases k1 : v.kind = 1
    · have q1 : (v.kind == 1) = true := by simp [k1]
      have q4 : (v.kind == 4) = false := by simp [k1]
      by_cases n2 : name = sBoolean
      · have b1 : (name == [73, 110, 116]) = false := by rw [n2]; rfl
        have b2 : (name == [66, 111, 111, 108, 101, 97, 110]) = true := by rw [n2]; rfl
        have b3 : (name == [73, 68]) = false := by rw [n2]; rfl
        rw [if_pos (.inr (.inl ⟨n2, k1⟩))]
        refine .gob ?_
        exact FinR.r0
      · have b2 : (name == [66, 111, 111, 108, 101, 97, 110]) = false := by simpa [sBoolean] using n2
        rw [if_neg (by rintro (h | h | h) <;> first | exact n2 h.1 | omega)]
        cases b1 : (name == [73, 110, 116]) <;> cases b3 : (name == [73, 68]) <;> cases b5 : (name == [83, 116, 114, 105, 110, 103])
        all_goals
          refine .gob ?_
          exact FinR.ret1 rfl weak_ve0
    · have q1 : (v.kind == 1) = false := by simp [k1]
      by_cases k4 : v.kind = 4
      · have q4 : (v.kind == 4) = true := by simp [k4]
        by_cases n4 : name = sString
        · have b1 : (name == [73, 110, 116]) = false := by rw [n4]; rfl
          have b2 : (name == [66, 111, 111, 108, 101, 97, 110]) = false := by rw [n4]; rfl
          have b3 : (name == [73, 68]) = false := by rw [n4]; rfl
          have b5 : (name == [83, 116, 114, 105, 110, 103]) = true := by rw [n4]; rfl
          rw [if_pos (.inr (.inr ⟨.inl n4, k4⟩))]
          refine .gob ?_
          exact FinR.r0
        · have b5 : (name == [83, 116, 114, 105, 110, 103]) = false := by simpa [sString] using n4
          by_cases n3 : name = sID
          · have b1 : (name == [73, 110, 116]) = false := by rw [n3]; rfl
            have b2 : (name == [66, 111, 111, 108, 101, 97, 110]) = false := by rw [n3]; rfl
            have b3 : (name == [73, 68]) = true := by rw [n3]; rfl
            rw [if_pos (.inr (.inr ⟨.inr n3, k4⟩))]
            refine .gob ?_
            exact FinR.r0
          · have b3 : (name == [73, 68]) = false := by simpa [sID] using n3
            rw [if_neg (by rintro (h | h | h) <;> first | exact h.1.elim n4 n3 | omega)]
            cases b1 : (name == [73, 110, 116]) <;> cases b2 : (name == [66, 111, 111, 108, 101, 97, 110])
            all_goals
              refine .gob ?_
              exact FinR.ret1 rfl weak_ve0
      · have q4 : (v.kind == 4) = false := by simp [k4]
        rw [if_neg (by omega)]
        cases b1 : (name == [73, 110, 116]) <;> cases b2 : (name == [66, 111, 111, 108, 101, 97, 110]) <;> cases b3 : (name == [73, 68]) <;> cases b5 : (name == [83, 116, 114, 105, 110, 103])
        all_goals
          refine .gob ?_
          exact FinR.ret1 rfl weak_ve0
theorem cEnum (s : Sch) (wr within : Bool) (env : List Mem) (d : Dfn) (v : Val) (hd : d.parts.length ≤ 9223372036854775807) : PFn Tryz.prog 230 [mkE s wr within env, d.enc, v.enc] (VE.enc (enumMk wr d v.kind v.s)) := by
  have hc := sContainsStr d.parts v.s hd
  have ht := text v.s
  refine AFn.plain (VE.closed _) (by simp [AV.closed, AV.closedL, mkE_closed, Dfn.closed, Val.closed]) (AFn.eR [.cell 6 38, .tmp 7] Tryz.func230 ?_)
  unfold enumMk
  by_cases hm : v.s ∈ d.parts
  · rw [decide_eq_true hm] at hc
    cases wr with
    | true =>
      by_cases k : v.kind = 5
      · have q : (v.kind != 5) = false := by simp [k]
        rw [if_pos ⟨by rw [if_pos rfl]; exact k, hm⟩]
        refine .gob ?_
        exact FinR.r0
      · have q : (v.kind != 5) = true := by simp [k]
        rw [if_neg (fun h => k (by have := h.1; rwa [if_pos rfl] at this))]
        refine .gob ?_
        exact FinR.ret1 rfl weak_ve0
    | false =>
      by_cases k : v.kind = 4
      · have q : (v.kind != 4) = false := by simp [k]
        rw [if_pos ⟨by rw [if_neg (by decide)]; exact k, hm⟩]
        refine .gob ?_
        exact FinR.r0
      · have q : (v.kind != 4) = true := by simp [k]
        rw [if_neg (fun h => k (by have := h.1; rwa [if_neg (by decide)] at this))]
        refine .gob ?_
        exact FinR.ret1 rfl weak_ve0
  · rw [decide_eq_false hm] at hc
    rw [if_neg (fun h => hm h.2)]
    cases wr with
    | true =>
      cases q : (v.kind != 5)
      all_goals
        refine .gob ?_
        exact FinR.ret1 rfl weak_ve0
    | false =>
      cases q : (v.kind != 4)
      all_goals
        refine .gob ?_
        exact FinR.ret1 rfl weak_ve0
theorem firstF_mkM (s : Sch) (wr : Bool) (env : List Mem) (dfl : Par → VE) (nm : Str) : ∀ m : List Mem, firstF (mkM s wr env dfl m) nm = (m.find? fun x => x.name == nm).map fun x => (x.name, x.v, fun t => askV s wr env dfl t x.v)
  | [] => by rw [mkM]; rfl
  | .mk n v :: m => by
    have ih := firstF_mkM s wr env dfl nm m
    unfold firstF at ih ⊢
    rw [mkM, List.find?_cons, List.find?_cons]
    show (match n == nm with | true => _ | false => _) = Option.map _ (match n == nm with | true => _ | false => _)
    cases n == nm with
    | true => rfl
    | false => exact ih
def memD (s : Sch) (within : Bool) (dfl : Par → VE) (p : Par) : Val × Bool × Int :=
  if p.has = true ∧ (within = false ∨ leafB s p.t.name = true) then ((dfl p).1, true, (dfl p).2) else if isT p.t = true then (val0, false, 9) else (val0, false, 0)
theorem memMk_none {s : Sch} {wr within : Bool} {env g : List Mem} {dfl D : Par → VE} {p : Par} (h : envO g p.name = none) : memMk s wr within env D (mkM s wr env dfl g) p = memD s within D p := by
  unfold memMk memD
  rw [firstF_mkM]
  unfold envO at h
  rw [Option.map_eq_none_iff] at h
  rw [h]; rfl
theorem memMk_some {s : Sch} {wr within : Bool} {env g : List Mem} {dfl D : Par → VE} {p : Par} {x : Val} (h : envO g p.name = some x) : memMk s wr within env D (mkM s wr env dfl g) p = if thereB wr env x = true then ((askV s wr env dfl p.t x).1, true, (askV s wr env dfl p.t x).2) else memD s within D p := by
  unfold memMk memD
  rw [firstF_mkM]
  unfold envO at h
  rw [Option.map_eq_some_iff] at h
  obtain ⟨m, h1, rfl⟩ := h
  rw [h1]
  simp only [Option.map_some, Option.bind_some]
  by_cases c : thereB wr env m.v = true
  · rw [if_pos c, if_pos c]
  · rw [if_neg c, if_neg c]
def M3.enc (x : Val × Bool × Int) : AV := .tup [x.1.enc, .bool x.2.1, .int .i64 x.2.2]
theorem M3.closed (x : Val × Bool × Int) : (M3.enc x).closed = true := by simp [M3.enc, AV.closed, AV.closedL, Val.closed]
theorem weak_m0 {b : Bool} {e : Int} {t1 t2 : Tk} : Weak (.tup [.agg [.int .i64 0, .int .i64 0, .str [], .slice [] t1, .slice [] t2], .bool b, .int .i64 e]) (M3.enc (val0, b, e)) := Weak.tup (WeakL.cons weak_flatV (WeakL.refl _))
theorem weak_mk0 (s : Sch) (t : Tk) : Weak (.agg [.slice (s.defs.map Dfn.enc) .no, .str s.query, .str s.mutation, .bool true, .bool false, .slice [] t]) (mkE s true false []) :=
  Weak.agg (WeakL.cons (Weak.refl _) (WeakL.cons (Weak.refl _) (WeakL.cons (Weak.refl _) (WeakL.cons (Weak.refl _) (WeakL.cons (Weak.refl _) (WeakL.cons (Weak.no (WeakL.refl _)) (WeakL.refl _)))))))
theorem cMember (s : Sch) (hs : s.size ≤ 68719476736) (wr within : Bool) (env g : List Mem) (dfl D : Par → VE) (p : Par) (he : env.length ≤ 68719476736) (hgl : g.length ≤ 68719476736) (hp : p.t.name.length ≤ 68719476736)
    (hA : ∀ x ∈ g, PFn Tryz.prog 197 [mkE s wr within env, p.t.enc, x.v.enc] (VE.enc (askV s wr env dfl p.t x.v)))
    (hD : p.has = true → (within = false ∨ leafB s p.t.name = true) → PFn Tryz.prog 197 [mkE s true false [], p.t.enc, p.d.enc] (VE.enc (D p))) :
    PFn Tryz.prog 173 [mkE s wr within env, p.enc, .slice (g.map Mem.enc) .no] (M3.enc (memMk s wr within env D (mkM s wr env dfl g) p)) := by
  have hg := get p.name g (by omega)
  have hlf := dLeaf s p.t.name hs
  have hi := wIs p.t (by omega)
  rw [envO_getG] at hg
  refine AFn.plain (M3.closed _) (by simp [AV.closed, AV.closedL, mkE_closed, Par.closed, Mem.closedL]) (AFn.eR [.cell 6 38, .tmp 7, .tmp 8] Tryz.func173 ?_)
  cases ho : envO g p.name with
  | none =>
    rw [memMk_none ho]
    rw [ho] at hg
    unfold memD
    cases b1 : p.has with
    | false =>
      rw [if_neg (by simp)]
      cases b4 : isT p.t <;> rw [b4] at hi
      all_goals
        refine .gob ?_
        exact FinR.ret1 rfl weak_m0
    | true =>
      cases within with
      | false =>
        rw [if_pos ⟨rfl, .inl rfl⟩]
        have hd := hD b1 (.inl rfl)
        generalize D p = r at hd
        obtain ⟨rv, re⟩ := r
        unfold VE.enc at hd
        simp only at hd
        repeat' first | refine .br ?_ | refine .s1 ?_ | (refine .q ?_ ?_ <;> intro hc) | refine A.call rfl hd (WeakL.cons (weak_mk0 s _) (WeakL.refl _)) ?_ | fail
        exact FinR.r0
      | true =>
        cases b3 : leafB s p.t.name with
        | true =>
          rw [b3] at hlf
          rw [if_pos ⟨rfl, .inr rfl⟩]
          have hd := hD b1 (.inr b3)
          generalize D p = r at hd
          obtain ⟨rv, re⟩ := r
          unfold VE.enc at hd
          simp only at hd
          repeat' first | refine .br ?_ | refine .s1 ?_ | (refine .q ?_ ?_ <;> intro hc) | refine A.call rfl hd (WeakL.cons (weak_mk0 s _) (WeakL.refl _)) ?_ | fail
          exact FinR.r0
        | false =>
          rw [b3] at hlf
          rw [if_neg (by simp)]
          cases b4 : isT p.t <;> rw [b4] at hi
          all_goals
            refine .gob ?_
            exact FinR.ret1 rfl weak_m0
  | some x =>
    rw [memMk_some ho]
    rw [ho] at hg
    have hth := cThere s wr within env x (by omega)
    cases c : thereB wr env x with
    | true =>
      rw [c] at hth
      rw [if_pos rfl]
      have hx : ∃ m ∈ g, m.v = x := by
        unfold envO at ho
        rw [Option.map_eq_some_iff] at ho
        obtain ⟨m, h1, h2⟩ := ho
        exact ⟨m, List.mem_of_find?_eq_some h1, h2⟩
      obtain ⟨m, hm, rfl⟩ := hx
      have ha := hA m hm
      generalize askV s wr env dfl p.t m.v = r at ha
      obtain ⟨rv, re⟩ := r
      unfold VE.enc at ha
      simp only at ha
      refine .gob ?_
      exact FinR.r0
    | false =>
      rw [c] at hth
      rw [if_neg (by decide)]
      unfold memD
      cases b1 : p.has with
      | false =>
        rw [if_neg (by simp)]
        cases b4 : isT p.t <;> rw [b4] at hi
        all_goals
          refine .gob ?_
          exact FinR.ret1 rfl weak_m0
      | true =>
        cases within with
        | false =>
          rw [if_pos ⟨rfl, .inl rfl⟩]
          have hd := hD b1 (.inl rfl)
          generalize D p = r at hd
          obtain ⟨rv, re⟩ := r
          unfold VE.enc at hd
          simp only at hd
          repeat' first | refine .br ?_ | refine .s1 ?_ | (refine .q ?_ ?_ <;> intro hc) | refine A.call rfl hd (WeakL.cons (weak_mk0 s _) (WeakL.refl _)) ?_ | fail
          exact FinR.r0
        | true =>
          cases b3 : leafB s p.t.name with
          | true =>
            rw [b3] at hlf
            rw [if_pos ⟨rfl, .inr rfl⟩]
            have hd := hD b1 (.inr b3)
            generalize D p = r at hd
            obtain ⟨rv, re⟩ := r
            unfold VE.enc at hd
            simp only at hd
            repeat' first | refine .br ?_ | refine .s1 ?_ | (refine .q ?_ ?_ <;> intro hc) | refine A.call rfl hd (WeakL.cons (weak_mk0 s _) (WeakL.refl _)) ?_ | fail
            exact FinR.r0
          | false =>
            rw [b3] at hlf
            rw [if_neg (by simp)]
            cases b4 : isT p.t <;> rw [b4] at hi
            all_goals
              refine .gob ?_
              exact FinR.ret1 rfl weak_m0
end Go.Proofs.YtmfmdehfbpkgdaaGreatDoor
