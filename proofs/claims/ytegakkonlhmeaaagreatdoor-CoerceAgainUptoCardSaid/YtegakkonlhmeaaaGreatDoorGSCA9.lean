/-
  Contracts and plain facts for a law, joined.
-/
import Derived.Test.YtegakkonlhmeaaaGreatDoorGSCA8
import Derived.Test.YtegakkonlhmeaaaGreatDoorGSCA4
import Derived.Test.YtegakkonlhmeaaaGreatDoorGSCA6
import Derived.Test.YtegakkonlhmeaaaGreatDoorGSCA7
set_option maxRecDepth 100000
set_option maxHeartbeats 16000000
set_option linter.unusedVariables false
set_option linter.unusedSimpArgs false
set_option linter.unusedSectionVars false
namespace Go.Proofs.YtegakkonlhmeaaaGreatDoor
open Go Go.Av
theorem nmC_small : ∀ (s : Str) (z : Bool), nmC z s = true → ∀ c ∈ s, c.toNat < 128
  | [], _, _, c, hc => by cases hc
  | a :: r, z, h, c, hc => by
    rw [nmC, Bool.and_eq_true] at h
    rcases List.mem_cons.1 hc with rfl | hc
    · have := h.1
      unfold letC digC at this
      simp only [Bool.or_eq_true, Bool.and_eq_true, decide_eq_true_eq] at this
      omega
    · exact nmC_small r false h.2 c hc
theorem good_nameB {s : Str} (h : nameB s = true) : good s = true := by
  unfold nameB at h
  rw [Bool.and_eq_true] at h
  exact good_ascii s (nmC_small s true h.1)
def AgainT (s : Sch) (dfl : Par → VE) (t : Typ) (w : Val) : Prop := allV good w = true ∧ mkV s false [] dfl w t = (w, 0)
theorem text_good {x : Str} (h : good x = true) : allV good (textV x) = true := by
  unfold textV
  rw [allV]
  simp [singleB, h, Val.kind, Val.l, Val.m, Val.n, Val.s]
theorem oddItem_six (wr : Bool) (t : Typ) : oddItem wr t 6 = false := by simp [oddItem]
theorem wrapN_good {b : Val} (hb : allV good b = true) : ∀ n : Nat, allV good (wrapN n b) = true
  | 0 => hb
  | n + 1 => by
    rw [wrapN_succ, allV]
    simp [allL, wrapN_good hb n]
theorem wrapN_kind {b : Val} : ∀ n : Nat, n ≠ 0 → (wrapN n b).kind = 6
  | 0, h => absurd rfl h
  | n + 1, _ => rfl
theorem wrap_again {s : Sch} {dfl : Par → VE} {b : Val} (h0 : b.kind ≠ 0) (h6 : b.kind ≠ 6) : ∀ (n : Nat) (t : Typ), rightT t = true → t.lists.toNat = n → baseMk s false [] dfl t.name b (mkM s false [] dfl b.m) = (b, 0) → mkV s false [] dfl (wrapN n b) t = (wrapN n b, 0)
  | 0, t, hr, hn, hb => by
    have hl := (rightT_iff.1 hr).2.1
    have hz : t.lists = 0 := by omega
    show mkV s false [] dfl b t = (b, 0)
    rw [mkV_eq, if_neg (fun c => by cases c.1), if_neg h0, if_neg (fun c => c.2 hz)]
    exact hb
  | n + 1, t, hr, hn, hb => by
    have hl := (rightT_iff.1 hr).2.1
    have hz : t.lists ≠ 0 := by intro e; rw [e] at hn; simp at hn
    have hri := rightT_item hr hz
    have hin : (itemT t).lists.toNat = n := by show (t.lists - 1).toNat = n; omega
    have ih := wrap_again h0 h6 n (itemT t) hri hin hb
    have ho : oddItem false (itemT t) (wrapN n b).kind = false := by
      by_cases c : n = 0
      · unfold oddItem
        have : (itemT t).lists = 0 := by have : (itemT t).lists = t.lists - 1 := rfl
                                         omega
        simp [this]
      · rw [wrapN_kind n c]; exact oddItem_six _ _
    rw [wrapN_succ, mkV_eq, if_neg (fun c => by cases c.1), if_neg (show ¬ (Val.mk 6 0 [] [wrapN n b] []).kind = 0 from by show ¬ (6 : Int) = 0; decide), if_pos ⟨hr, hz⟩, if_pos (show (Val.mk 6 0 [] [wrapN n b] []).kind = 6 from rfl)]
    have this : mkL s false [] dfl [wrapN n b] (itemT t) = ([wrapN n b], 0) := by
      rw [mkL, ho]
      simp [ih, mkL]
    rw [show (Val.mk 6 0 [] [wrapN n b] []).l = [wrapN n b] from rfl, this]
    simp
theorem memsMk_val {s : Sch} {wr within : Bool} {env : List Mem} {dfl : Par → VE} {fs : List MF} : ∀ {ps : List Par}, (memsMk s wr within env dfl fs ps).2 = 0 →
    memsMk s wr within env dfl fs ps = (ps.filterMap fun p => if (memMk s wr within env dfl fs p).2.1 = true then some (.mk p.name (memMk s wr within env dfl fs p).1) else none, 0)
  | [], _ => rfl
  | p :: ps, h => by
    have h' := h
    rw [memsMk_zero, List.forall_mem_cons, ← memsMk_zero] at h
    obtain ⟨h1, h2⟩ := h
    have ih := memsMk_val h2
    unfold memsMk
    dsimp only
    rw [if_neg (by simpa using h1), if_neg (by simpa using h2), ih, List.filterMap_cons]
    by_cases c : (memMk s wr within env dfl fs p).2.1 = true
    · simp [c]
    · simp [c]
def HD2 (s : Sch) (dfl dfl2 : Par → VE) : Prop := ∀ d ∈ s.defs, ∀ p ∈ d.params, p.has = true → leafB s p.t.name = true → (dfl p).2 = 0 → AgainT s dfl2 p.t (dfl p).1
theorem find_filter {ps : List Par} (hn : (ps.map Par.name).Nodup) (r : Par → Bool) (x : Par → Val) {p : Par} (hp : p ∈ ps) :
    (ps.filterMap fun p => if r p = true then some (Mem.mk p.name (x p)) else none).find? (fun m => m.name == p.name) = if r p = true then some (.mk p.name (x p)) else none := by
  induction ps with
  | nil => simp at hp
  | cons q ps ih =>
    rw [List.map_cons, List.nodup_cons] at hn
    rw [List.filterMap_cons]
    have rest : ∀ p ∈ ps, p.name ≠ q.name := fun p hp e => hn.1 (List.mem_map.2 ⟨p, hp, e⟩)
    rcases List.mem_cons.1 hp with rfl | hp
    · by_cases c : r p = true
      · simp only [c, if_true]
        rw [List.find?_cons]
        simp [Mem.name]
      · simp only [c]
        rw [List.find?_eq_none.2]
        · simp
        · intro m hm
          obtain ⟨p', hp', e⟩ := List.mem_filterMap.1 hm
          by_cases c' : r p' = true
          · rw [if_pos c'] at e
            cases e
            simp [Mem.name]
            exact rest p' hp'
          · rw [if_neg c'] at e; cases e
    · by_cases c : r q = true
      · simp only [c, if_true]
        rw [List.find?_cons]
        have : ((Mem.mk q.name (x q)).name == p.name) = false := by
          rw [beq_eq_false_iff_ne]; exact fun e => rest p hp e.symm
        rw [this]
        exact ih hn.2 hp
      · simp only [c]
        exact ih hn.2 hp
theorem filterMap_cong {α β : Type} {f g : α → Option β} : ∀ {l : List α}, (∀ x ∈ l, f x = g x) → l.filterMap f = l.filterMap g
  | [], _ => rfl
  | x :: l, h => by
    rw [List.filterMap_cons, List.filterMap_cons, h x (List.mem_cons_self ..), filterMap_cong fun y hy => h y (List.mem_cons_of_mem _ hy)]
theorem input_again {s : Sch} (h : checkI s = 0) {wr : Bool} {dfl dfl2 : Par → VE} {d : Dfn} (hd : d ∈ s.defs) {m : List Mem} (hdf : HD2 s dfl dfl2)
    (hM : ∀ x ∈ m, allV good x.v = true → ∀ t : Typ, rightT t = true → (mkV s wr [] dfl x.v t).2 = 0 → AgainT s dfl2 t (mkV s wr [] dfl x.v t).1)
    (hz : (inputMk s wr [] dfl (mkM s wr [] dfl m) d).2 = 0) :
    ∃ q : List Mem, inputMk s wr [] dfl (mkM s wr [] dfl m) d = (.mk 7 0 [] [] q, 0) ∧ allM good q = true ∧ inputMk s false [] dfl2 (mkM s false [] dfl2 q) d = (.mk 7 0 [] [] q, 0) := by
  obtain ⟨s1, s2⟩ := sound_params h hd
  have hi : inputMk s wr [] dfl (mkM s wr [] dfl m) d = (.mk 7 0 [] [] (memsMk s wr true [] dfl (mkM s wr [] dfl m) d.params).1, 0) ∧ (memsMk s wr true [] dfl (mkM s wr [] dfl m) d.params).2 = 0 := by
    unfold inputMk at hz ⊢
    split at hz
    · cases hz
    · rename_i hs
      rw [if_neg hs]
      dsimp only at hz ⊢
      by_cases c : (memsMk s wr true [] dfl (mkM s wr [] dfl m) d.params).2 ≠ 0
      · rw [if_pos c] at hz; exact absurd hz c
      · rw [if_neg c]; exact ⟨rfl, by simpa using c⟩
  obtain ⟨hi1, hi2⟩ := hi
  refine ⟨_, hi1, ?_⟩
  have hz1 := memsMk_zero.1 hi2
  have hag : ∀ p ∈ d.params, (memMk s wr true [] dfl (mkM s wr [] dfl m) p).2.1 = true → AgainT s dfl2 p.t (memMk s wr true [] dfl (mkM s wr [] dfl m) p).1 := fun p hp => by
    have hp0 := hz1 p hp
    unfold memMk at hp0 ⊢
    rw [mkM_map, firstF_map] at hp0 ⊢
    generalize hfx : (m.find? fun x => x.name == p.name) = fx at hp0 ⊢
    have key : ∀ x, fx = some x → ((mfOf s wr [] dfl x).2.2 p.t).2 = 0 → AgainT s dfl2 p.t ((mfOf s wr [] dfl x).2.2 p.t).1 := fun x hx h0 => by
      subst hx
      have hxm := List.mem_of_find?_eq_some hfx
      unfold mfOf at h0 ⊢
      dsimp only at h0 ⊢
      by_cases c : rightT p.t = true ∧ allV good x.v = true
      · rw [if_pos c] at h0 ⊢
        exact hM x hxm c.2 p.t c.1 h0
      · rw [if_neg c] at h0; cases h0
    have dft : (if p.has = true ∧ (true = false ∨ leafB s p.t.name = true) then ((dfl p).1, true, (dfl p).2) else if isT p.t = true then (val0, false, (9 : Int)) else (val0, false, 0)).2.2 = 0 →
        (if p.has = true ∧ (true = false ∨ leafB s p.t.name = true) then ((dfl p).1, true, (dfl p).2) else if isT p.t = true then (val0, false, (9 : Int)) else (val0, false, 0)).2.1 = true →
        AgainT s dfl2 p.t (if p.has = true ∧ (true = false ∨ leafB s p.t.name = true) then ((dfl p).1, true, (dfl p).2) else if isT p.t = true then (val0, false, (9 : Int)) else (val0, false, 0)).1 := fun h0 h1 => by
      by_cases c : p.has = true ∧ (true = false ∨ leafB s p.t.name = true)
      · rw [if_pos c] at h0 ⊢
        exact hdf d hd p hp c.1 (c.2.resolve_left (by decide)) h0
      · rw [if_neg c] at h1
        split at h1 <;> cases h1
    cases fx with
    | none => exact dft hp0
    | some x =>
      simp only [Option.map_some, Option.bind_some] at hp0 ⊢
      by_cases c : thereB wr [] (mfOf s wr [] dfl x).2.1 = true
      · simp only [if_pos c] at hp0 ⊢
        exact fun _ => key x rfl hp0
      · simp only [if_neg c] at hp0 ⊢
        exact dft hp0
  have hv := memsMk_val hi2
  have hz2 : ∀ p ∈ d.params, (memMk s wr true [] dfl (mkM s wr [] dfl m) p).2.1 = false → ¬ (p.has = true ∧ (true = false ∨ leafB s p.t.name = true)) ∧ isT p.t = false := fun p hp h1 => by
    have hp0 := hz1 p hp
    unfold memMk at hp0 h1
    split at h1
    · cases h1
    · split at h1
      · cases h1
      · rename_i e c
        rw [e] at hp0
        dsimp only at hp0
        rw [if_neg c] at hp0
        refine ⟨c, ?_⟩
        cases e2 : isT p.t with
        | false => rfl
        | true => rw [e2] at hp0; simp at hp0
  generalize hr : (fun p => (memMk s wr true [] dfl (mkM s wr [] dfl m) p).2.1) = r1 at *
  generalize hx : (fun p => (memMk s wr true [] dfl (mkM s wr [] dfl m) p).1) = x1 at *
  have hr' : ∀ p, (memMk s wr true [] dfl (mkM s wr [] dfl m) p).2.1 = r1 p := fun p => congrFun hr p
  have hx' : ∀ p, (memMk s wr true [] dfl (mkM s wr [] dfl m) p).1 = x1 p := fun p => congrFun hx p
  simp only [hr', hx'] at hag hv hz2
  rw [hv]
  dsimp only
  have hq : ∀ y ∈ (d.params.filterMap fun p => if r1 p = true then some (Mem.mk p.name (x1 p)) else none), ∃ p ∈ d.params, r1 p = true ∧ y = .mk p.name (x1 p) := fun y hy => by
    obtain ⟨p, hp, e⟩ := List.mem_filterMap.1 hy
    by_cases c : r1 p = true
    · rw [if_pos c] at e; cases e; exact ⟨p, hp, c, rfl⟩
    · rw [if_neg c] at e; cases e
  have hall : allM good (d.params.filterMap fun p => if r1 p = true then some (Mem.mk p.name (x1 p)) else none) = true := by
    generalize (d.params.filterMap fun p => if r1 p = true then some (Mem.mk p.name (x1 p)) else none) = q at hq
    induction q with
    | nil => rw [allM]
    | cons y q ih =>
      obtain ⟨p, hp, c, rfl⟩ := hq _ (List.mem_cons_self ..)
      rw [allM, ih fun y hy => hq y (List.mem_cons_of_mem _ hy), (hag p hp c).1, good_nameB (s2 p hp).1]
      rfl
  refine ⟨hall, ?_⟩
  have hmm : ∀ p ∈ d.params, memMk s false true [] dfl2 (mkM s false [] dfl2 (d.params.filterMap fun p => if r1 p = true then some (Mem.mk p.name (x1 p)) else none)) p = if r1 p = true then (x1 p, true, 0) else (val0, false, 0) := fun p hp => by
    unfold memMk
    rw [mkM_map, firstF_map, find_filter s1 r1 x1 hp]
    by_cases c : r1 p = true
    · rw [if_pos c, if_pos c]
      obtain ⟨g1, g2⟩ := hag p hp c
      have ht : thereB false [] (mfOf s false [] dfl2 (.mk p.name (x1 p))).2.1 = true := by simp [thereB]
      simp only [Option.map_some, Option.bind_some, if_pos ht]
      have : (mfOf s false [] dfl2 (.mk p.name (x1 p))).2.2 p.t = (x1 p, 0) := by
        show (if _ then _ else _) = _
        rw [if_pos ⟨(s2 p hp).2.1, g1⟩]; exact g2
      rw [this]
    · rw [if_neg c, if_neg c]
      obtain ⟨c1, c2⟩ := hz2 p hp (by simpa using c)
      simp only [Option.map_none, Option.bind_none]
      rw [if_neg c1, c2]; rfl
  have hst : strange false [] (mkM s false [] dfl2 (d.params.filterMap fun p => if r1 p = true then some (Mem.mk p.name (x1 p)) else none)) d.params = false := by
    unfold strange
    rw [mkM_map, List.any_eq_false]
    intro f hf
    obtain ⟨y, hy, rfl⟩ := List.mem_map.1 hf
    obtain ⟨p, hp, c, rfl⟩ := hq y hy
    have : (mfOf s false [] dfl2 (.mk p.name (x1 p))).1 = p.name := rfl
    rw [this, parO_nodup s1 hp]
    simp
  have hz3 : (memsMk s false true [] dfl2 (mkM s false [] dfl2 (d.params.filterMap fun p => if r1 p = true then some (Mem.mk p.name (x1 p)) else none)) d.params).2 = 0 := by
    rw [memsMk_zero]
    intro p hp
    rw [hmm p hp]
    by_cases c : r1 p = true
    · rw [if_pos c]
    · rw [if_neg c]
  have hv3 := memsMk_val hz3
  have hfm : (d.params.filterMap fun p => if (memMk s false true [] dfl2 (mkM s false [] dfl2 (d.params.filterMap fun p => if r1 p = true then some (Mem.mk p.name (x1 p)) else none)) p).2.1 = true then some (Mem.mk p.name (memMk s false true [] dfl2 (mkM s false [] dfl2 (d.params.filterMap fun p => if r1 p = true then some (Mem.mk p.name (x1 p)) else none)) p).1) else none) =
      d.params.filterMap fun p => if r1 p = true then some (Mem.mk p.name (x1 p)) else none := by
    apply filterMap_cong
    intro p hp
    rw [hmm p hp]
    by_cases c : r1 p = true
    · simp [c]
    · simp [c]
  unfold inputMk
  rw [hst, if_neg (by decide)]
  dsimp only
  rw [hv3, hfm]
  simp
theorem base_again {s : Sch} (h : checkI s = 0) {wr : Bool} {dfl dfl2 : Par → VE} {n : Str} {v : Val} (hg : allV good v = true) (hl : leafB s n = true ∨ HD2 s dfl dfl2)
    (hM : ∀ x ∈ v.m, allV good x.v = true → ∀ t : Typ, HD2 s dfl dfl2 → rightT t = true → (mkV s wr [] dfl x.v t).2 = 0 → AgainT s dfl2 t (mkV s wr [] dfl x.v t).1)
    (hz : (baseMk s wr [] dfl n v (mkM s wr [] dfl v.m)).2 = 0) :
    ∃ b : Val, baseMk s wr [] dfl n v (mkM s wr [] dfl v.m) = (b, 0) ∧ b.kind ≠ 0 ∧ b.kind ≠ 6 ∧ allV good b = true ∧ baseMk s false [] dfl2 n b (mkM s false [] dfl2 b.m) = (b, 0) := by
  unfold baseMk at hz ⊢
  cases hf : findO s n with
  | none => rw [hf] at hz; cases hz
  | some d =>
    rw [hf] at hz
    dsimp only at hz ⊢
    by_cases k0 : d.kind = 0
    · rw [if_pos k0] at hz ⊢
      simp only [if_pos k0]
      unfold scalMk at hz ⊢
      split at hz
      · cases hz
      · rename_i c1
        rw [if_neg c1]
        split at hz
        · rename_i c2
          rw [if_pos c2]
          refine ⟨_, rfl, (by show (4 : Int) ≠ 0; decide), (by show (4 : Int) ≠ 6; decide), text_good (good_itoa _), ?_⟩
          have e1 : n ≠ sInt := by rw [c2.1]; decide
          rw [if_neg (fun c => e1 c.1), if_neg (fun c => by have : (4 : Int) = 2 := c.2
                                                            omega), if_pos (.inr (.inr ⟨.inr c2.1, rfl⟩))]
        · rename_i c2
          rw [if_neg c2]
          split at hz
          · rename_i c3
            rw [if_pos c3]
            refine ⟨v, rfl, ?_, ?_, hg, ?_⟩
            · rcases c3 with c | c | c <;> omega
            · rcases c3 with c | c | c <;> omega
            · rw [if_neg c1, if_neg c2, if_pos c3]
          · cases hz
    · rw [if_neg k0] at hz ⊢
      simp only [if_neg k0]
      by_cases k4 : d.kind = 4
      · rw [if_pos k4] at hz ⊢
        simp only [if_pos k4]
        unfold enumMk at hz ⊢
        by_cases c : v.kind = (if wr = true then 5 else 4) ∧ v.s ∈ d.parts
        · rw [if_pos c]
          refine ⟨_, rfl, (by show (4 : Int) ≠ 0; decide), (by show (4 : Int) ≠ 6; decide), text_good ?_, ?_⟩
          · rw [allV_eq] at hg
            have hk : v.kind = 4 ∨ v.kind = 5 := by
              have := c.1
              split at this <;> omega
            rw [if_neg (by omega), if_neg (by omega)] at hg
            unfold singleB at hg
            rcases hk with hk | hk
            · rw [hk] at hg; simp at hg; exact hg.2.2
            · rw [hk] at hg; simp at hg; exact good_nameB hg.2.1.2
          · show (if (4 : Int) = (if false = true then 5 else 4) ∧ v.s ∈ d.parts then _ else _) = _
            rw [if_pos ⟨by simp, c.2⟩]; rfl
        · rw [if_neg c] at hz; cases hz
      · rw [if_neg k4] at hz ⊢
        simp only [if_neg k4]
        by_cases k5 : d.kind = 5
        · rw [if_pos k5] at hz ⊢
          simp only [if_pos k5]
          have hnl : ¬ leafB s n = true := by
            unfold leafB kindB findR
            rw [hf]; simp [k5]
          have hd2 := hl.resolve_left hnl
          by_cases k7 : v.kind = 7
          · rw [if_pos k7] at hz ⊢
            obtain ⟨q, e1, e2, e3⟩ := input_again h (find_named hf (by omega)).1 hd2 (fun x hx hgx t hr hz => hM x hx hgx t hd2 hr hz) hz
            rw [e1]
            refine ⟨_, rfl, (by show (7 : Int) ≠ 0; decide), (by show (7 : Int) ≠ 6; decide), ?_, ?_⟩
            · rw [allV]; simp [e2]
            · rw [if_pos (show (Val.mk 7 0 [] [] q).kind = 7 from rfl)]; exact e3
          · rw [if_neg k7] at hz; cases hz
        · rw [if_neg k5] at hz; cases hz
section
variable (s : Sch) (wr : Bool) (dfl dfl2 : Par → VE) (h : checkI s = 0)
include h
mutual
theorem again_V : ∀ (v : Val) (t : Typ), rightT t = true → allV good v = true → (leafB s t.name = true ∨ HD2 s dfl dfl2) → (mkV s wr [] dfl v t).2 = 0 →
    AgainT s dfl2 t (mkV s wr [] dfl v t).1 ∧ ((mkV s wr [] dfl v t).1.kind = 0 ↔ v.kind = 0 ∨ (wr = true ∧ v.kind = 8)) ∧ ((mkV s wr [] dfl v t).1.kind ≠ 0 → t.lists ≠ 0 → (mkV s wr [] dfl v t).1.kind = 6)
  | .mk k n str l m, t, hr, hg, hl, hz => by
    have hM := again_M m
    have hL := again_L l
    have hg' := hg
    rw [allV] at hg
    have ek : (Val.mk k n str l m).kind = k := rfl
    have el : (Val.mk k n str l m).l = l := rfl
    have em : (Val.mk k n str l m).m = m := rfl
    rw [mkV_eq, ek, el, em] at hz ⊢
    by_cases k8 : wr = true ∧ k = 8
    · rw [if_pos k8] at hz ⊢
      have e0 : envO [] (Val.mk k n str l m).s = none := rfl
      rw [e0] at hz ⊢
      dsimp only at hz ⊢
      by_cases i : isT t = true
      · rw [if_pos i] at hz; cases hz
      · rw [if_neg i]
        refine ⟨⟨by decide, ?_⟩, ⟨fun _ => .inr k8, fun _ => rfl⟩, fun x => absurd rfl x⟩
        rw [mkV_eq, if_neg (fun c => by cases c.1), if_pos (show (val0, (0 : Int)).1.kind = 0 from rfl), if_neg i]
    rw [if_neg k8] at hz ⊢
    by_cases k0 : k = 0
    · rw [if_pos k0] at hz ⊢
      by_cases i : isT t = true
      · rw [if_pos i] at hz; cases hz
      · rw [if_neg i]
        refine ⟨⟨hg', ?_⟩, ⟨fun _ => .inl k0, fun _ => k0⟩, fun x => absurd k0 x⟩
        rw [mkV_eq, if_neg (fun c => by cases c.1), if_pos (show (Val.mk k n str l m, (0 : Int)).1.kind = 0 from k0), if_neg i]
    rw [if_neg k0] at hz ⊢
    have nk : ¬ (k = 0 ∨ (wr = true ∧ k = 8)) := fun c => c.elim k0 k8
    have hb : (baseMk s wr [] dfl t.name (.mk k n str l m) (mkM s wr [] dfl m)).2 = 0 → _ := fun hz => base_again h (v := .mk k n str l m) (n := t.name) (dfl := dfl) (dfl2 := dfl2) (wr := wr) hg' hl (fun x hx hgx t' hd2 hr' hz' => hM x hx hgx t' hr' (.inr hd2) hz') hz
    by_cases c : t.lists = 0
    · rw [if_neg (fun x => x.2 c)] at hz ⊢
      obtain ⟨b, e1, e2, e3, e4, e5⟩ := hb hz
      have e1' : baseMk s wr [] dfl t.name (.mk k n str l m) (mkM s wr [] dfl m) = (b, 0) := e1
      rw [e1']
      refine ⟨⟨e4, ?_⟩, ⟨fun x => absurd x e2, fun x => absurd x nk⟩, fun _ x => absurd c x⟩
      rw [mkV_eq, if_neg (fun c => by cases c.1), if_neg e2, if_neg (fun x => x.2 c)]
      exact e5
    · rw [if_pos ⟨hr, c⟩] at hz ⊢
      by_cases k6 : k = 6
      · rw [if_pos k6] at hz ⊢
        rw [if_pos k6, Bool.and_eq_true] at hg
        by_cases q : (mkL s wr [] dfl l (itemT t)).2 ≠ 0
        · rw [if_pos q] at hz; exact absurd hz q
        · rw [if_neg q]
          obtain ⟨g1, g2⟩ := hL (itemT t) (rightT_item hr c) hg.1 hl (by simpa using q)
          refine ⟨⟨?_, ?_⟩, ⟨fun x => absurd x (by show ¬ (6 : Int) = 0; decide), fun x => absurd x nk⟩, fun _ _ => rfl⟩
          · rw [allV]; simp [g1]
          · rw [mkV_eq, if_neg (fun c => by cases c.1), if_neg (show ¬ (Val.mk 6 0 [] (mkL s wr [] dfl l (itemT t)).1 []).kind = 0 from by show ¬ (6 : Int) = 0; decide), if_pos ⟨hr, c⟩, if_pos (show (Val.mk 6 0 [] (mkL s wr [] dfl l (itemT t)).1 []).kind = 6 from rfl)]
            show (if (mkL s false [] dfl2 (mkL s wr [] dfl l (itemT t)).1 (itemT t)).2 ≠ 0 then _ else (Val.mk 6 0 [] (mkL s false [] dfl2 (mkL s wr [] dfl l (itemT t)).1 (itemT t)).1 [], (0 : Int))) = _
            rw [g2]; simp
      · rw [if_neg k6, wrapR_zero] at hz
        rw [if_neg k6]
        obtain ⟨b, e1, e2, e3, e4, e5⟩ := hb hz
        have e1' : baseMk s wr [] dfl t.name (.mk k n str l m) (mkM s wr [] dfl m) = (b, 0) := e1
        rw [e1']
        have hw : wrapR t.lists.toNat (b, 0) = (wrapN t.lists.toNat b, 0) := by unfold wrapR; simp
        rw [hw]
        have hn : t.lists.toNat ≠ 0 := by have := (rightT_iff.1 hr).2.1; omega
        have hk6 := wrapN_kind (b := b) _ hn
        refine ⟨⟨wrapN_good e4 _, wrap_again e2 e3 _ t hr rfl e5⟩, ⟨fun x => ?_, fun x => absurd x nk⟩, fun _ _ => hk6⟩
        have x' : (wrapN t.lists.toNat b).kind = 0 := x
        omega
theorem again_L : ∀ (l : List Val) (t : Typ), rightT t = true → allL good l = true → (leafB s t.name = true ∨ HD2 s dfl dfl2) → (mkL s wr [] dfl l t).2 = 0 → allL good (mkL s wr [] dfl l t).1 = true ∧ mkL s false [] dfl2 (mkL s wr [] dfl l t).1 t = ((mkL s wr [] dfl l t).1, 0)
  | [], t, _, _, _, _ => by rw [mkL]; exact ⟨by rw [allL], by rw [mkL]⟩
  | v :: l, t, hr, hg, hl, hz => by
    rw [allL, Bool.and_eq_true] at hg
    have h1 := again_V v t hr hg.1 hl
    have h2 := again_L l t hr hg.2 hl
    rw [mkL] at hz ⊢
    by_cases o : oddItem wr t v.kind = true
    · rw [if_pos o] at hz; cases hz
    · rw [if_neg o] at hz ⊢
      dsimp only at hz ⊢
      by_cases q1 : (mkV s wr [] dfl v t).2 ≠ 0
      · rw [if_pos q1] at hz; exact absurd hz q1
      · rw [if_neg q1] at hz ⊢
        by_cases q2 : (mkL s wr [] dfl l t).2 ≠ 0
        · rw [if_pos q2] at hz; exact absurd hz q2
        · rw [if_neg q2]
          obtain ⟨⟨a1, a2⟩, a3, a4⟩ := h1 (by simpa using q1)
          obtain ⟨b1, b2⟩ := h2 (by simpa using q2)
          dsimp only
          refine ⟨by rw [allL, a1, b1]; rfl, ?_⟩
          have ho : oddItem false t (mkV s wr [] dfl v t).1.kind = false := by
            by_cases z : t.lists = 0
            · simp [oddItem, z]
            · by_cases k0 : (mkV s wr [] dfl v t).1.kind = 0
              · rw [k0]; simp [oddItem]
              · rw [a4 k0 z]; exact oddItem_six _ _
          rw [mkL, ho, if_neg (by decide)]
          dsimp only
          rw [a2, b2]; simp
theorem again_M : ∀ (m : List Mem), ∀ x ∈ m, allV good x.v = true → ∀ t : Typ, rightT t = true → (leafB s t.name = true ∨ HD2 s dfl dfl2) → (mkV s wr [] dfl x.v t).2 = 0 → AgainT s dfl2 t (mkV s wr [] dfl x.v t).1
  | [], x, hx, _, _, _, _, _ => by cases hx
  | .mk nm v :: m, x, hx, hg, t, hr, hl, hz => by
    rcases List.mem_cons.1 hx with e | hx
    · subst e
      exact (again_V v t hr hg hl hz).1
    · exact again_M m x hx hg t hr hl hz
end
end
theorem dfl_again {s : Sch} (h : checkI s = 0) (dfl2 : Par → VE) : HD2 s (dflLeaf s) dfl2 := fun d hd p hp hh hlf hz => by
  obtain ⟨_, b2, b3, b4⟩ := (sound_params h hd).2 p hp
  unfold dflLeaf askV at hz ⊢
  by_cases c : rightT p.t = true ∧ allV good p.d = true
  · rw [if_pos c] at hz ⊢
    exact (again_V s true junkD dfl2 h p.d p.t b2 c.2 (.inl hlf) hz).1
  · rw [if_neg c] at hz; cases hz
theorem mkV_err (s : Sch) (wr : Bool) (env : List Mem) (dfl : Par → VE) (v : Val) (t : Typ) (h : (mkV s wr env dfl v t).2 ≠ 0) : (mkV s wr env dfl v t).1 = val0 := by
  rw [mkV_eq] at h ⊢
  by_cases c8 : wr = true ∧ v.kind = 8
  · rw [if_pos c8] at h ⊢
    cases e : envO env v.s with
    | none =>
      rw [e] at h
      dsimp only at h ⊢
      split <;> rfl
    | some x =>
      rw [e] at h
      dsimp only at h ⊢
      by_cases c : x.kind = 0 ∧ isT t = true
      · rw [if_pos c]
      · rw [if_neg c] at h; exact absurd rfl h
  rw [if_neg c8] at h ⊢
  by_cases c0 : v.kind = 0
  · rw [if_pos c0] at h ⊢
    by_cases c : isT t = true
    · rw [if_pos c]
    · rw [if_neg c] at h; exact absurd rfl h
  rw [if_neg c0] at h ⊢
  have hb := baseMk_err s wr env dfl t.name v (mkM s wr env dfl v.m)
  by_cases cl : rightT t = true ∧ t.lists ≠ 0
  · rw [if_pos cl] at h ⊢
    by_cases c6 : v.kind = 6
    · rw [if_pos c6] at h ⊢
      by_cases q : (mkL s wr env dfl v.l (itemT t)).2 ≠ 0
      · rw [if_pos q]
      · rw [if_neg q] at h; exact absurd rfl h
    · rw [if_neg c6] at h ⊢
      rw [ne_eq, wrapR_zero] at h
      unfold wrapR
      rw [if_neg h]
      exact hb h
  · rw [if_neg cl] at h ⊢
    exact hb h
theorem coe_again {s : Sch} (h : checkI s = 0) (t : Typ) (v : Val) : ((inV s t v).2 ≠ 0 → (inV s t v).1 = val0) ∧ ((inV s t v).2 = 0 → inV s t (inV s t v).1 = ((inV s t v).1, 0) ∧ (v.kind = 0 ↔ (inV s t v).1.kind = 0)) := by
  unfold inV askV
  by_cases c : rightT t = true ∧ allV good v = true
  · rw [if_pos c]
    refine ⟨mkV_err s false [] (dflLeaf s) v t, fun hz => ?_⟩
    obtain ⟨⟨a1, a2⟩, a3, _⟩ := again_V s false (dflLeaf s) (dflLeaf s) h v t c.1 c.2 (.inr (dfl_again h _)) hz
    rw [if_pos ⟨c.1, a1⟩]
    refine ⟨a2, ⟨fun e => a3.2 (.inl e), fun e => (a3.1 e).resolve_right (fun x => by cases x.1)⟩⟩
  · rw [if_neg c]
    exact ⟨fun _ => rfl, fun e => by cases e⟩
end Go.Proofs.YtegakkonlhmeaaaGreatDoor
namespace Go.Proofs.YtegakkonlhmeaaaGreatDoor
open Go Go.Av
theorem sumSize_le {α : Type} {f g : α → Nat} : ∀ {l : List α}, (∀ x ∈ l, f x ≤ g x) → sumSize f l ≤ sumSize g l
  | [], _ => Nat.le_refl _
  | x :: l, h => by
    have h1 := h x (List.mem_cons_self ..)
    have h2 := sumSize_le (f := f) (g := g) (l := l) fun y hy => h y (List.mem_cons_of_mem _ hy)
    simp only [sumSize]; omega
theorem sumSize_plus {α : Type} {f g : α → Nat} : ∀ {l : List α}, sumSize (fun x => f x + g x) l = sumSize f l + sumSize g l
  | [] => rfl
  | x :: l => by
    have := sumSize_plus (f := f) (g := g) (l := l)
    simp only [sumSize]; omega
theorem sumSize_mul {α : Type} {f : α → Nat} (c : Nat) : ∀ {l : List α}, sumSize (fun x => f x * c) l = sumSize f l * c
  | [] => by simp [sumSize]
  | x :: l => by
    have := sumSize_mul (f := f) c (l := l)
    simp only [sumSize]; rw [Nat.add_mul, this]
theorem one_of {ps : List Par} (hn : (ps.map Par.name).Nodup) (n : Str) (c : Nat) : sumSize (fun p => if n == p.name then c else 0) ps ≤ c := by
  induction ps with
  | nil => simp [sumSize]
  | cons p ps ih =>
    rw [List.map_cons, List.nodup_cons] at hn
    simp only [sumSize]
    by_cases e : n = p.name
    · have : sumSize (fun p => if n == p.name then c else 0) ps ≤ sumSize (fun _ => 0) ps := sumSize_le fun q hq => by
        have : n ≠ q.name := fun e2 => hn.1 (List.mem_map.2 ⟨q, hq, by rw [← e2, e]⟩)
        simp [this]
      have z : sumSize (fun _ : Par => 0) ps = 0 := by
        clear this ih hn
        induction ps with
        | nil => rfl
        | cons a l ih => simp only [sumSize]; omega
      have e' : (n == p.name) = true := by simp [e]
      rw [e', if_pos rfl]; omega
    · have e' : (n == p.name) = false := by simp [e]
      rw [e', if_neg (by decide)]
      have := ih hn.2; omega
theorem sum_find (g : Mem → Nat) {ps : List Par} (hn : (ps.map Par.name).Nodup) : ∀ m : List Mem, sumSize (fun p => match m.find? (fun x => x.name == p.name) with | some x => g x | none => 0) ps ≤ sumSize g m
  | [] => by
    simp only [List.find?_nil]
    clear hn
    induction ps with
    | nil => simp [sumSize]
    | cons a l ih => simp only [sumSize] at ih ⊢; omega
  | y :: m => by
    have ih := sum_find g hn m
    have h1 := one_of hn y.name (g y)
    have h2 : sumSize (fun p => match (y :: m).find? (fun x => x.name == p.name) with | some x => g x | none => 0) ps ≤ sumSize (fun p => (if y.name == p.name then g y else 0) + (match m.find? (fun x => x.name == p.name) with | some x => g x | none => 0)) ps :=
      sumSize_le fun p _ => by
        rw [List.find?_cons]
        cases y.name == p.name <;> simp
    rw [sumSize_plus] at h2
    rw [show sumSize g (y :: m) = g y + sumSize g m from rfl]; omega
def fzP (s : Sch) (dfl : Par → VE) (p : Par) : Nat := if p.has = true ∧ leafB s p.t.name = true then p.name.length + 2 + (dfl p).1.size else 0
def HZ (s : Sch) (dfl : Par → VE) (D : Nat) : Prop := ∀ d ∈ s.defs, sumSize (fzP s dfl) d.params ≤ D
theorem val0_size : val0.size = 6 := by simp [val0, Val.size, Val.sizeL, Val.sizeM]
theorem textV_size (x : Str) : (textV x).size = x.length + 6 := by simp [textV, Val.size, Val.sizeL, Val.sizeM]
theorem wrapN_size (b : Val) : ∀ n : Nat, (wrapN n b).size = b.size + 6 * n
  | 0 => rfl
  | n + 1 => by
    rw [wrapN_succ, Val.size, Val.sizeL, Val.sizeL, Val.sizeM, wrapN_size b n, List.length_nil]; omega
theorem six_le (v : Val) : 6 ≤ v.size := by rw [v.size_eq]; omega
theorem mems_size {s : Sch} {wr : Bool} {env : List Mem} {dfl : Par → VE} {m : List Mem} {g : Mem → Nat} (hg : ∀ x ∈ m, ∀ t : Typ, x.name.length + 2 + ((mfOf s wr env dfl x).2.2 t).1.size ≤ g x) :
    ∀ ps : List Par, sumSize Mem.size (memsMk s wr true env dfl (mkM s wr env dfl m) ps).1 ≤ sumSize (fun p => (match m.find? (fun x => x.name == p.name) with | some x => g x | none => 0) + fzP s dfl p) ps
  | [] => by simp [memsMk, sumSize]
  | p :: ps => by
    have ih := mems_size hg ps
    have h1 : (memMk s wr true env dfl (mkM s wr env dfl m) p).2.1 = true → p.name.length + 2 + (memMk s wr true env dfl (mkM s wr env dfl m) p).1.size ≤ (match m.find? (fun x => x.name == p.name) with | some x => g x | none => 0) + fzP s dfl p := by
      unfold memMk
      rw [mkM_map, firstF_map]
      have dft : ∀ c : Nat, (if p.has = true ∧ (true = false ∨ leafB s p.t.name = true) then ((dfl p).1, true, (dfl p).2) else if isT p.t = true then (val0, false, (9 : Int)) else (val0, false, 0)).2.1 = true →
          p.name.length + 2 + (if p.has = true ∧ (true = false ∨ leafB s p.t.name = true) then ((dfl p).1, true, (dfl p).2) else if isT p.t = true then (val0, false, (9 : Int)) else (val0, false, 0)).1.size ≤ c + fzP s dfl p := fun c h1 => by
        by_cases c1 : p.has = true ∧ (true = false ∨ leafB s p.t.name = true)
        · rw [if_pos c1]
          unfold fzP
          rw [if_pos ⟨c1.1, c1.2.resolve_left (by decide)⟩]; dsimp only; omega
        · rw [if_neg c1] at h1
          split at h1 <;> cases h1
      cases hfx : m.find? (fun x => x.name == p.name) with
      | none => exact dft 0
      | some x =>
        simp only [Option.map_some, Option.bind_some]
        by_cases c : thereB wr env (mfOf s wr env dfl x).2.1 = true
        · simp only [if_pos c]
          intro _
          have := hg x (List.mem_of_find?_eq_some hfx) p.t
          have e : x.name = p.name := by simpa using List.find?_some hfx
          rw [e] at this; omega
        · simp only [if_neg c]
          exact dft (g x)
    unfold memsMk
    dsimp only
    rw [show sumSize (fun p => (match m.find? (fun x => x.name == p.name) with | some x => g x | none => 0) + fzP s dfl p) (p :: ps) = ((match m.find? (fun x => x.name == p.name) with | some x => g x | none => 0) + fzP s dfl p) + sumSize (fun p => (match m.find? (fun x => x.name == p.name) with | some x => g x | none => 0) + fzP s dfl p) ps from rfl]
    by_cases a : (memMk s wr true env dfl (mkM s wr env dfl m) p).2.2 ≠ 0
    · rw [if_pos a]; simp [sumSize]
    · rw [if_neg a]
      by_cases b : (memsMk s wr true env dfl (mkM s wr env dfl m) ps).2 ≠ 0
      · rw [if_pos b]; simp [sumSize]
      · rw [if_neg b]
        by_cases c : (memMk s wr true env dfl (mkM s wr env dfl m) p).2.1 = true
        · rw [if_pos c]
          have := h1 c
          show (Mem.mk p.name _).size + sumSize Mem.size _ ≤ _
          have e : (Mem.mk p.name (memMk s wr true env dfl (mkM s wr env dfl m) p).1).size = p.name.length + 2 + (memMk s wr true env dfl (mkM s wr env dfl m) p).1.size := rfl
          rw [e]; omega
        · rw [if_neg c]; dsimp only; omega
section
variable (s : Sch) (wr : Bool) (dfl : Par → VE) (D : Nat) (h : checkI s = 0)
include h
theorem base_size {n : Str} {v : Val} (hv : v.ok) (hl : leafB s n = true ∨ HZ s dfl D)
    (hM : HZ s dfl D → ∀ x ∈ v.m, ∀ t : Typ, rightT t = true → (mkV s wr [] dfl x.v t).1.size ≤ x.v.size * (D + 50)) :
    (baseMk s wr [] dfl n v (mkM s wr [] dfl v.m)).1.size + 24 ≤ v.size * (D + 50) := by
  have h6 := six_le v
  have hD : v.size * (D + 50) = v.size * D + v.size * 50 := Nat.mul_add ..
  have z0 := val0_size
  have hs : v.s.length + 6 ≤ v.size := by rw [v.size_eq]; omega
  unfold baseMk
  cases hf : findO s n with
  | none => dsimp only; omega
  | some d =>
    dsimp only
    by_cases k0 : d.kind = 0
    · rw [if_pos k0]
      unfold scalMk
      split
      · dsimp only; omega
      · split
        · dsimp only
          have h0 := (Val.ok_parts hv).1
          have := itoa_len v.n h0.1 h0.2
          rw [textV_size]; omega
        · split <;> dsimp only <;> omega
    · rw [if_neg k0]
      by_cases k4 : d.kind = 4
      · rw [if_pos k4]
        unfold enumMk
        (repeat' split) <;> dsimp only <;> first | (rw [textV_size]; omega) | omega
      · rw [if_neg k4]
        by_cases k5 : d.kind = 5
        · rw [if_pos k5]
          by_cases k7 : v.kind = 7
          · rw [if_pos k7]
            have hnl : ¬ leafB s n = true := by
              unfold leafB kindB findR
              rw [hf]; simp [k5]
            have hz := hl.resolve_left hnl
            have hd := (find_named hf (by omega)).1
            obtain ⟨s1, _⟩ := sound_params h hd
            have hms := mems_size (s := s) (wr := wr) (env := []) (dfl := dfl) (m := v.m) (g := fun x => x.size * (D + 50)) (fun x hx t => by
              have e1 : x.size = x.name.length + 2 + x.v.size := rfl
              have h2 : ((mfOf s wr [] dfl x).2.2 t).1.size ≤ x.v.size * (D + 50) := by
                show (if rightT t = true ∧ allV good x.v = true then mkV s wr [] dfl x.v t else (val0, 1)).1.size ≤ _
                by_cases c : rightT t = true ∧ allV good x.v = true
                · rw [if_pos c]; exact hM hz x hx t c.1
                · rw [if_neg c]
                  have := six_le x.v
                  have e2 : x.v.size * (D + 50) = x.v.size * D + x.v.size * 50 := Nat.mul_add ..
                  dsimp only; omega
              rw [e1, Nat.add_mul]
              have e3 : (x.name.length + 2) * (D + 50) = (x.name.length + 2) * D + (x.name.length + 2) * 50 := Nat.mul_add ..
              omega) d.params
            rw [sumSize_plus] at hms
            have h2 := sum_find (fun x => x.size * (D + 50)) s1 v.m
            rw [sumSize_mul] at h2
            have h3 := hz d hd
            have hvs : (sumSize Mem.size v.m + 6) * (D + 50) ≤ v.size * (D + 50) := Nat.mul_le_mul_right _ (by rw [v.size_eq]; omega)
            rw [Nat.add_mul] at hvs
            unfold inputMk
            split
            · dsimp only; omega
            · dsimp only
              split
              · dsimp only; omega
              · dsimp only
                rw [Val.size, Val.sizeL, Val.sizeM_eq, List.length_nil]; omega
          · rw [if_neg k7]; dsimp only; omega
        · rw [if_neg k5]; dsimp only; omega
mutual
theorem made_V : ∀ (v : Val) (t : Typ), v.ok → rightT t = true → (leafB s t.name = true ∨ HZ s dfl D) → (mkV s wr [] dfl v t).1.size ≤ v.size * (D + 50)
  | .mk k n str l m, t, hv, hr, hl => by
    have hM := made_M m
    have hL := made_L l
    have h6 := six_le (.mk k n str l m)
    have hD : (Val.mk k n str l m).size * (D + 50) = (Val.mk k n str l m).size * D + (Val.mk k n str l m).size * 50 := Nat.mul_add ..
    have z0 := val0_size
    obtain ⟨_, o2, o3⟩ := Val.ok_parts hv
    have hb := base_size (n := t.name) (v := .mk k n str l m) s wr dfl D h hv hl (fun hz x hx t' hr' => hM o3 x hx t' hr' (.inr hz))
    rw [mkV_eq]
    split
    · have e0 : envO [] (Val.mk k n str l m).s = none := rfl
      rw [e0]; dsimp only
      split <;> dsimp only <;> omega
    split
    · split <;> dsimp only <;> omega
    split
    · rename_i c
      split
      · have hi := hL (itemT t) o2 (rightT_item hr c.2) hl
        split
        · dsimp only; omega
        · dsimp only
          rw [Val.size, Val.sizeM, List.length_nil]
          have e1 : (Val.mk k n str l m).l = l := rfl
          rw [e1]
          have hvs : (Val.sizeL l + 6) * (D + 50) ≤ (Val.mk k n str l m).size * (D + 50) := Nat.mul_le_mul_right _ (by rw [Val.size]; omega)
          rw [Nat.add_mul] at hvs
          omega
      · have h4 := (rightT_iff.1 hr).2.2.1
        unfold wrapR
        split
        · dsimp only; rw [wrapN_size]
          have : t.lists.toNat ≤ 4 := by omega
          omega
        · omega
    · omega
theorem made_L : ∀ (l : List Val) (t : Typ), (∀ x ∈ l, x.ok) → rightT t = true → (leafB s t.name = true ∨ HZ s dfl D) → Val.sizeL (mkL s wr [] dfl l t).1 ≤ Val.sizeL l * (D + 50)
  | [], t, _, _, _ => by rw [mkL, Val.sizeL]; omega
  | v :: l, t, ho, hr, hl => by
    have h1 := made_V v t (ho v (List.mem_cons_self ..)) hr hl
    have h2 := made_L l t (fun x hx => ho x (List.mem_cons_of_mem _ hx)) hr hl
    rw [mkL, show Val.sizeL (v :: l) = v.size + Val.sizeL l from by rw [Val.sizeL], Nat.add_mul]
    split
    · rw [Val.sizeL]; omega
    · dsimp only
      split
      · rw [Val.sizeL]; omega
      · split
        · rw [Val.sizeL]; omega
        · rw [Val.sizeL]; omega
theorem made_M : ∀ (m : List Mem), (∀ x ∈ m, x.v.ok) → ∀ x ∈ m, ∀ t : Typ, rightT t = true → (leafB s t.name = true ∨ HZ s dfl D) → (mkV s wr [] dfl x.v t).1.size ≤ x.v.size * (D + 50)
  | [], _, x, hx, _, _, _ => by cases hx
  | .mk nm v :: m, ho, x, hx, t, hr, hl => by
    rcases List.mem_cons.1 hx with e | hx
    · subst e
      exact made_V v t (ho _ (List.mem_cons_self ..)) hr hl
    · exact made_M m (fun y hy => ho y (List.mem_cons_of_mem _ hy)) x hx t hr hl
end
end
mutual
theorem size_szV : ∀ v : Val, v.size + 2 ≤ 8 * szV v
  | .mk k n str l m => by
    have h1 := size_szL l
    have h2 := size_szM m
    rw [Val.size, szV]; omega
theorem size_szL : ∀ l : List Val, Val.sizeL l ≤ 8 * szL l
  | [] => by rw [Val.sizeL]; omega
  | v :: l => by
    have h1 := size_szV v
    have h2 := size_szL l
    rw [Val.sizeL, szL]; omega
theorem size_szM : ∀ m : List Mem, Val.sizeM m ≤ 8 * szM m
  | [] => by rw [Val.sizeM]; omega
  | .mk n v :: m => by
    have h1 := size_szV v
    have h2 := size_szM m
    rw [Val.sizeM, szM]; omega
end
theorem inV_size {s : Sch} (h : checkI s = 0) (hok : s.okD) (hl : lightS s = true) {v : Val} (hv : v.ok) (hz : szV v ≤ 2000) (t : Typ) : (inV s t v).1.size ≤ 68719476736 := by
  have hs : ltSch s ≤ 4000 := by unfold lightS at hl; simpa using hl
  have hD : HZ s (dflLeaf s) 3200000 := fun d hd => by
    have h1 : ltPars d.params ≤ 4000 := by
      have := sumSize_mem (size := ltDfn) hd
      have h0 : ltPars d.params ≤ ltDfn d := by unfold ltDfn; omega
      unfold ltSch at hs
      omega
    have h2 : sumSize (fzP s (dflLeaf s)) d.params ≤ sumSize (fun p : Par => (1 + p.name.length + szV p.d) * 800) d.params := sumSize_le fun p hp => by
      unfold fzP
      split
      · rename_i c
        have h3 : (dflLeaf s p).1.size ≤ p.d.size * 50 := by
          unfold dflLeaf askV
          split
          · rename_i c2
            have := made_V s true junkD 0 h p.d p.t (hok d hd p hp) c2.1 (.inl c.2)
            simpa using this
          · have := six_le p.d
            have := val0_size
            dsimp only; omega
        have := size_szV p.d
        omega
      · omega
    rw [sumSize_mul] at h2
    unfold ltPars at h1
    omega
  have hsz := size_szV v
  unfold inV askV
  split
  · rename_i c
    have := made_V s false (dflLeaf s) 3200000 h v t hv c.1 (.inr hD)
    omega
  · have := val0_size
    dsimp only; omega
theorem mk_ok {k n : Int} {str : Str} {l : List Val} {m : List Mem} (hk : (Lit.int .i64 k).wf = true) (hn : (Lit.int .i64 n).wf = true) (hl : ∀ x ∈ l, x.ok) (hm : ∀ x ∈ m, x.v.ok) : (Val.mk k n str l m).ok := by
  rw [Val.ok]
  exact ⟨hk, hn, Val.okL_of hl, Val.okM_of hm⟩
theorem nil_ok : ∀ x ∈ ([] : List Val), x.ok := fun x hx => by cases hx
theorem nilM_ok : ∀ x ∈ ([] : List Mem), x.v.ok := fun x hx => by cases hx
theorem z0_ok : val0.ok := mk_ok (by decide) (by decide) nil_ok nilM_ok
theorem tx_ok (x : Str) : (textV x).ok := mk_ok (by decide) (by decide) nil_ok nilM_ok
theorem wrapN_ok {b : Val} (h : b.ok) : ∀ n : Nat, (wrapN n b).ok
  | 0 => h
  | n + 1 => by
    rw [wrapN_succ]
    exact mk_ok (by decide) (by decide) (fun x hx => by rw [List.mem_singleton.1 hx]; exact wrapN_ok h n) nilM_ok
theorem mems_ok {s : Sch} {wr : Bool} {env : List Mem} {dfl : Par → VE} {fs : List MF} : ∀ {ps : List Par}, (∀ p ∈ ps, (memMk s wr true env dfl fs p).1.ok) → ∀ x ∈ (memsMk s wr true env dfl fs ps).1, x.v.ok
  | [], _, x, hx => by simp [memsMk] at hx
  | p :: ps, h, x, hx => by
    have ih := mems_ok (s := s) (wr := wr) (env := env) (dfl := dfl) (fs := fs) (ps := ps) fun q hq => h q (List.mem_cons_of_mem _ hq)
    unfold memsMk at hx
    dsimp only at hx
    split at hx
    · cases hx
    · split at hx
      · cases hx
      · dsimp only at hx
        split at hx
        · rcases List.mem_cons.1 hx with rfl | hx
          · exact h p (List.mem_cons_self ..)
          · exact ih x hx
        · exact ih x hx
section
variable (s : Sch) (wr : Bool) (dfl : Par → VE) (hdf : ∀ d ∈ s.defs, ∀ p ∈ d.params, (dfl p).1.ok)
include hdf
theorem base_ok {n : Str} {v : Val} (hv : v.ok) (hM : ∀ x ∈ v.m, ∀ t : Typ, (mkV s wr [] dfl x.v t).1.ok) : (baseMk s wr [] dfl n v (mkM s wr [] dfl v.m)).1.ok := by
  unfold baseMk
  cases hf : findO s n with
  | none => exact z0_ok
  | some d =>
    dsimp only
    by_cases k0 : d.kind = 0
    · rw [if_pos k0]
      unfold scalMk
      split
      · exact z0_ok
      · split
        · exact tx_ok _
        · split
          · exact hv
          · exact z0_ok
    rw [if_neg k0]
    by_cases k4 : d.kind = 4
    · rw [if_pos k4]
      unfold enumMk
      (repeat' split) <;> first | exact tx_ok _ | exact z0_ok
    rw [if_neg k4]
    by_cases k5 : d.kind = 5
    · rw [if_pos k5]
      split
      · have hd := (find_named hf (by omega)).1
        unfold inputMk
        split
        · exact z0_ok
        · dsimp only
          split
          · exact z0_ok
          · refine mk_ok (by decide) (by decide) nil_ok (mems_ok fun p hp => ?_)
            unfold memMk
            rw [mkM_map, firstF_map]
            have dft : (if p.has = true ∧ (true = false ∨ leafB s p.t.name = true) then ((dfl p).1, true, (dfl p).2) else if isT p.t = true then (val0, false, (9 : Int)) else (val0, false, 0)).1.ok := by
              split
              · exact hdf d hd p hp
              · split <;> exact z0_ok
            cases hfx : v.m.find? (fun x => x.name == p.name) with
            | none => exact dft
            | some x =>
              simp only [Option.map_some, Option.bind_some]
              by_cases c : thereB wr [] (mfOf s wr [] dfl x).2.1 = true
              · simp only [if_pos c]
                show (if rightT p.t = true ∧ allV good x.v = true then mkV s wr [] dfl x.v p.t else (val0, 1)).1.ok
                split
                · exact hM x (List.mem_of_find?_eq_some hfx) p.t
                · exact z0_ok
              · simp only [if_neg c]
                exact dft
      · exact z0_ok
    · rw [if_neg k5]; exact z0_ok
mutual
theorem ok_V : ∀ (v : Val) (t : Typ), v.ok → (mkV s wr [] dfl v t).1.ok
  | .mk k n str l m, t, hv => by
    have hM := ok_M m
    have hL := ok_L l
    obtain ⟨_, o2, o3⟩ := Val.ok_parts hv
    have hb := base_ok (n := t.name) (v := .mk k n str l m) s wr dfl hdf hv (fun x hx t' => hM o3 x hx t')
    rw [mkV_eq]
    split
    · have e0 : envO [] (Val.mk k n str l m).s = none := rfl
      rw [e0]; dsimp only
      split <;> exact z0_ok
    split
    · split
      · exact z0_ok
      · exact hv
    split
    · split
      · split
        · exact z0_ok
        · exact mk_ok (by decide) (by decide) (hL o2 (itemT t)) nilM_ok
      · unfold wrapR
        split
        · exact wrapN_ok hb _
        · exact hb
    · exact hb
theorem ok_L : ∀ (l : List Val), (∀ x ∈ l, x.ok) → ∀ (t : Typ), ∀ x ∈ (mkL s wr [] dfl l t).1, x.ok
  | [], _, t, x, hx => by rw [mkL] at hx; cases hx
  | v :: l, ho, t, x, hx => by
    have h1 := ok_V v t (ho v (List.mem_cons_self ..))
    have h2 := ok_L l (fun x hx => ho x (List.mem_cons_of_mem _ hx)) t
    rw [mkL] at hx
    split at hx
    · cases hx
    · dsimp only at hx
      split at hx
      · cases hx
      · split at hx
        · cases hx
        · rcases List.mem_cons.1 hx with rfl | hx
          · exact h1
          · exact h2 x hx
theorem ok_M : ∀ (m : List Mem), (∀ x ∈ m, x.v.ok) → ∀ x ∈ m, ∀ t : Typ, (mkV s wr [] dfl x.v t).1.ok
  | [], _, x, hx, _ => by cases hx
  | .mk nm v :: m, ho, x, hx, t => by
    rcases List.mem_cons.1 hx with e | hx
    · subst e
      exact ok_V v t (ho _ (List.mem_cons_self ..))
    · exact ok_M m (fun y hy => ho y (List.mem_cons_of_mem _ hy)) x hx t
end
end
theorem inV_ok {s : Sch} (hok : s.okD) {v : Val} (hv : v.ok) (t : Typ) : (inV s t v).1.ok := by
  unfold inV askV
  split
  · refine ok_V s false (dflLeaf s) (fun d hd p hp => ?_) v t hv
    unfold dflLeaf askV
    split
    · exact ok_V s true junkD (fun _ _ _ _ => z0_ok) p.d p.t (hok d hd p hp)
    · exact z0_ok
  · exact z0_ok
end Go.Proofs.YtegakkonlhmeaaaGreatDoor
