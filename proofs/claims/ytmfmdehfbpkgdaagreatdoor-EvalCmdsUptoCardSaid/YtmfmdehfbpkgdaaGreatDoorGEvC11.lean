/-
  Contracts and plain facts for a law, joined.
-/
import Derived.Test.YtmfmdehfbpkgdaaGreatDoorGEvC10
import Derived.Test.YtmfmdehfbpkgdaaGreatDoorGEvC1
import Derived.Test.YtmfmdehfbpkgdaaGreatDoorGEvC5
import Derived.Test.YtmfmdehfbpkgdaaGreatDoorGEvC2
import Derived.Test.YtmfmdehfbpkgdaaGreatDoorGEvC7
import Derived.Test.YtmfmdehfbpkgdaaGreatDoorGEvC3
set_option maxRecDepth 100000
set_option maxHeartbeats 16000000
set_option linter.unusedVariables false
set_option linter.unusedSimpArgs false
set_option linter.unusedSectionVars false
namespace Go.Proofs.YtmfmdehfbpkgdaaGreatDoor
open Go Go.Av
attribute [local irreducible] HCode AOps PFn AFn Av.Step TStep
theorem foldN_take {α : Type} (fm : α → EvS → Nd × EvS) : ∀ (l : List α) (k : Nat) (h : k < l.length) (st : EvS),
    foldN fm (l.take (k + 1)) st = ((foldN fm (l.take k) st).1 ++ [(fm l[k] (foldN fm (l.take k) st).2).1], (fm l[k] (foldN fm (l.take k) st).2).2)
  | [], k, h, st => by simp at h
  | g :: l, 0, h, st => by
    rw [List.take_succ_cons, List.take_zero, List.take_zero]
    simp only [foldN, List.nil_append, List.getElem_cons_zero]
  | g :: l, k + 1, h, st => by
    have ih := foldN_take fm l k (by simpa using h) (fm g st).2
    rw [List.take_succ_cons, List.take_succ_cons, foldN, foldN]
    dsimp only
    rw [ih]
    simp only [List.getElem_cons_succ, List.cons_append]
theorem foldN_len {α : Type} (fm : α → EvS → Nd × EvS) : ∀ (l : List α) (st : EvS), (foldN fm l st).1.length = l.length
  | [], _ => rfl
  | g :: l, st => by
    have := foldN_len fm l (fm g st).2
    rw [foldN, List.length_cons, List.length_cons, this]
theorem foldN_mono {α : Type} (fm : α → EvS → Nd × EvS) (hf : ∀ g st, EvOk st → Kept st (fm g st).2) : ∀ (l : List α) (k : Nat) (st : EvS), EvOk st → (foldN fm (l.take k) st).2.c ≤ (foldN fm l st).2.c
  | [], k, st, h => by rw [List.take_nil]; exact Nat.le_refl _
  | g :: l, 0, st, h => by rw [List.take_zero]; exact (foldN_ok fm hf (g :: l) st h).c
  | g :: l, k + 1, st, h => by
    rw [List.take_succ_cons, foldN, foldN]
    exact foldN_mono fm hf l k _ (hf g st h).ok
theorem foldN_c {α : Type} (fm : α → EvS → Nd × EvS) (hf : ∀ g st, EvOk st → Kept st (fm g st).2) (ht : ∀ g st, EvOk st → st.c + 1 ≤ (fm g st).2.c) : ∀ (l : List α) (st : EvS), EvOk st → st.c + l.length ≤ (foldN fm l st).2.c
  | [], st, h => Nat.le_refl _
  | g :: l, st, h => by
    have h1 := ht g st h
    have h2 := foldN_c fm hf ht l _ (hf g st h).ok
    rw [foldN, List.length_cons]
    dsimp only
    omega
theorem fieldM_c (s : Sch) (d : Dcm) (env : List Mem) (pl : Pl) (hpl : PlKeeps pl) (typ : Str) (row : Row) (g : Grp) (p : Path) (st : EvS) (h : EvOk st) : st.c + 1 ≤ (fieldM s d env pl false typ row g p st).2.c := by
  unfold fieldM
  dsimp only
  split
  · exact Nat.le_refl _
  split
  · exact Nat.le_refl _
  split
  · exact Nat.le_refl _
  · exact (complM_ok s pl hpl _ _ _ _ _ _ h.tick.ok).c
theorem grp_sels (s : Sch) (d : Dcm) (env : List Mem) (hx : CtxOk s d env) (typ : Str) {sels : List Sl} {c : Nat} (hs : SelsOk sels c) : ∀ g ∈ groupsM s d env typ sels, g.sels ≠ [] ∧ SelsOk g.sels (c + 1) := fun g hg => by
  obtain ⟨h1, h2⟩ := hx.frags
  have hd := hx.hd
  have ha := groups_all s d env typ (fun x => x.ok ∧ x.size ≤ 1048576) (fun x hx y hy => ⟨(x.ok_eq.1 hx.1).2.2.2 y hy, by
      have h2 := x.size_eq
      have h3 := sumSize_mem (size := Sl.size) hy
      have := hx.2
      omega⟩)
    (fun f hf y hy => ⟨hx.dk f hf y hy, by
      have h3 := sumSize_mem (size := Sl.size) hy
      have h4 : sumSize Sl.size f.sels ≤ sumSize (fun f : Frg => sumSize Sl.size f.sels) d.frags := sumSize_mem (size := fun f : Frg => sumSize Sl.size f.sels) hf
      omega⟩) sels hs.all g hg
  have ht := groups_tot s d env typ sels
  have hm : sumSize Sl.size g.sels ≤ totW (groupsM s d env typ sels) := sumSize_mem (size := fun g : Grp => sumSize Sl.size g.sels) hg
  have := hs.sz
  exact ⟨ha.1, by omega, ha.2⟩
def fmG (s : Sch) (d : Dcm) (env : List Mem) (n : Nat) (typ : Str) (row : Row) (p : Path) (g : Grp) (st : EvS) : Nd × EvS := fieldM s d env (placeM s d env n false) false typ row g (p ++ [⟨g.key, 0⟩]) st
theorem eFieldG (s : Sch) (d : Dcm) (env : List Mem) (hx : CtxOk s d env) (n : Nat) (hplk : PlKeeps (placeM s d env n false)) (hpl : PlOk s d env (placeM s d env n false)) (typ : Str) (row : Row) (hrow : RowOk row) (g : Grp) (x : Sl) (rest : List Sl) (hgx : g.sels = x :: rest) (sels0 : List Sl) (p : Path) (st : EvS) (m : Bool) (ks : List Str) (xs : List Nd) (h : EvOk st) (hs : SelsOk g.sels st.c) (hp : p.length ≤ st.c) (hc0 : st.c ≤ 4096)
    (hkl : ks.length ≤ 1048576) (hxl : xs.length ≤ 1048576) (hc : (fmG s d env n typ row p g st).2.c ≤ 4096) :
    AFn Tryz.prog 35 [.ptr 0 0, plE (.vptr 3 10 1 0 0) typ row sels0 p, g.enc, .nilfn] ⟨evB s d env st, evT st ++ [.vec [knP m ks (xs.map fun y => .rptr y.kenc)], .len ks.length, .len xs.length]⟩
      (fun e σ' => e = .ret (.tup []) ∧ σ' = ⟨evB s d env (fmG s d env n typ row p g st).2, evT (fmG s d env n typ row p g st).2 ++ [.vec [knP m (ks ++ [g.key]) ((xs ++ [(fmG s d env n typ row p g st).1]).map fun y => .rptr y.kenc)], .len (ks.length + 1), .len (xs.length + 1)]⟩) := by
  obtain ⟨key, sl⟩ := g
  dsimp only at hgx hs
  subst hgx
  exact eField s d env hx (placeM s d env n false) hplk hpl typ row hrow key x rest sels0 p st m ks xs h hs hp hc0 hkl hxl false .nilfn (fun _ _ _ => ⟨rfl, rfl⟩) hc
theorem ePlace (s : Sch) (d : Dcm) (env : List Mem) (hx : CtxOk s d env) (n : Nat) (hpl : PlOk s d env (placeM s d env n false)) : PlOk s d env (placeM s d env (n + 1) false) := by
  intro typ row sels p m st h hs hrow hp hc
  have hplk := placeM_ok s d env n
  have hkp0 := placeM_ok s d env (n + 1) typ row sels p m st h
  have hc0 : st.c ≤ 4096 := Nat.le_trans hkp0.c hc
  have hgr := eGroups s d env hx st typ row sels p hs hc0
  have hgs := grp_sels s d env hx typ hs
  have hfc := foldN_c (fmG s d env n typ row p) (fun g st h => fieldM_ok s d env _ hplk typ row g _ st h) (fun g st h => fieldM_c s d env _ hplk typ row g _ st h) (groupsM s d env typ sels) st.tick h.tick.ok
  have hfl := foldN_len (fmG s d env n typ row p) (groupsM s d env typ sels)
  have hfm := foldN_mono (fmG s d env n typ row p) (fun g st h => fieldM_ok s d env _ hplk typ row g _ st h) (groupsM s d env typ sels)
  have hft := foldN_take (fmG s d env n typ row p) (groupsM s d env typ sels)
  have hfo := fun l st h => foldN_ok (fmG s d env n typ row p) (fun g st h => fieldM_ok s d env _ hplk typ row g _ st h) l st h
  have hfl2 := fun l => foldN_len (fmG s d env n typ row p) l
  have epl : placeM s d env (n + 1) false typ row sels p m st = (.mk 2 m val0 ((groupsM s d env typ sels).map Grp.key) (foldN (fmG s d env n typ row p) (groupsM s d env typ sels) st.tick).1, (foldN (fmG s d env n typ row p) (groupsM s d env typ sels) st.tick).2) := rfl
  rw [epl] at hc ⊢
  dsimp only at hc
  have e0 : evB s d env st = evB s d env st.tick := rfl
  have e1 : evT st = evT st.tick := rfl
  have ht1 := h.tick.ok
  have hs1 : ∀ g ∈ groupsM s d env typ sels, g.sels ≠ [] ∧ SelsOk g.sels st.tick.c := hgs
  have hp1 : p.length ≤ st.tick.c := Nat.le_succ_of_le hp
  have hfield := fun (g : Grp) (x : Sl) (rest : List Sl) (q : EvS) (ks : List Str) (xs : List Nd) (hgx : g.sels = x :: rest) => eFieldG s d env hx n hplk hpl typ row hrow g x rest hgx sels p q m ks xs
  rw [e0, e1] at hgr
  unfold EvC
  rw [e0, e1]
  generalize st.tick = st at *
  generalize groupsM s d env typ sels = gs at *
  refine AFn.methK (nB := 2) (mT := 4) (AFn.en [] Tryz.func31 ?_) (Nat.le_refl _) (Nat.le_refl _) rfl (evB_low _ _ _ _ _ (by omega)) (evT_low4 _ _ (AV.low_of_closed _ _ _ (Nd.kclosed _)))
  have b3 := evB_low s d env st 3 (by omega)
  have t3 := evT_low 2 3 (by omega) st
  have hgl : AV.lowL 2 3 [.ptr 0 0, plE .undef typ row sels p] = true := by simp [plE, AV.lowL, AV.low, Mem.lowL, AV.lowL_of_closed _ _ _ (Step.closedL p)]
  have hrl : AV.low 2 3 (.slice (gs.map Grp.enc) .no) = true := AV.low_of_closed _ _ _ (by simp [AV.closed, Grp.closedL])
  have hwk : WeakL [.ptr 0 0, plE (.vptr 3 10 1 0 0) typ row sels p] [.ptr 0 0, plE .undef typ row sels p] := WeakL.cons (Weak.refl _) (WeakL.cons (Weak.agg (WeakL.cons (weak_undef _) (WeakL.refl _))) (WeakL.refl _))
  repeat' first | refine .br ?_ | refine .s1 ?_ | (refine .q ?_ ?_ <;> intro hc) | refine A.callPre (B0 := evB s d env st) (B1 := evB s d env st) (T0 := evT st) (T1 := evT st) (B := []) (T := [_]) rfl hgr rfl (.inl rfl) (.inr rfl) (Nat.le_refl _) (Nat.le_refl _) b3 t3 b3 t3 hgl hrl hwk ?_ | fail
  refine HCode.turn 10 rfl (Turn.inner (k := 3) (i := 0) (c := 7) rfl rfl rfl (Turn.adopt (z := 1) rfl rfl rfl) rfl rfl) ?_
  refine HCode.turn 10 rfl (Turn.inner (k := 3) (i := 0) (c := 9) rfl rfl rfl (Turn.adopt (z := 1) rfl rfl rfl) rfl rfl) ?_
  have hls : gs.length ≤ 4096 := by omega
  refine HCode.forK gs.length (fun k => [(10, .int .i64 k), (9, .int .i64 gs.length), (8, .slice (gs.map Grp.enc) .no), (3, .rptr (plE (.vptr 3 10 1 0 0) typ row sels p)), (0, .ptr 0 0)])
    (fun k => ⟨evB s d env (foldN (fmG s d env n typ row p) (gs.take k) st).2, evT (foldN (fmG s d env n typ row p) (gs.take k) st).2 ++ [.vec [knP m ((gs.take k).map Grp.key) ((foldN (fmG s d env n typ row p) (gs.take k) st).1.map fun y => .rptr y.kenc)], .len k, .len k]⟩)
    (fun k => True) ⟨rfl, congrArg (AV.int .i64) (by simp), rfl, rfl, rfl, trivial⟩ rfl trivial fun k hk' _ => ?_
  by_cases h1 : k < gs.length
  · have d1 : decide ((k : Int) < (gs.length : Int)) = true := by simp [h1]
    have x1 : (gs.map Grp.enc)[k]? = some gs[k].enc := by simp [h1]
    have htk := hft k h1 st
    have hmo := hfm (k + 1) st ht1
    have hok := hfo (gs.take k) st ht1
    have hll := hfl2 (gs.take k) st
    have hkt : (gs.take k).length = k := by simp; omega
    have hok2 : Kept _ _ := fieldM_ok s d env (placeM s d env n false) hplk typ row gs[k] (p ++ [⟨gs[k].key, 0⟩]) (foldN (fmG s d env n typ row p) (gs.take k) st).2 hok.ok
    obtain ⟨hne, hso⟩ := hs1 gs[k] (List.getElem_mem h1)
    obtain ⟨x, rest, hgx⟩ := List.exists_cons_of_ne_nil hne
    have hkm : (gs.take k).map Grp.key ++ [gs[k].key] = (gs.take (k + 1)).map Grp.key := by rw [List.take_succ_eq_append_getElem h1, List.map_append]; rfl
    rw [htk] at hmo
    have hqc : (fmG s d env n typ row p gs[k] (foldN (fmG s d env n typ row p) (gs.take k) st).2).2.c ≤ 4096 := Nat.le_trans hmo hc
    have hfd := hfield gs[k] x rest (foldN (fmG s d env n typ row p) (gs.take k) st).2 ((gs.take k).map Grp.key) (foldN (fmG s d env n typ row p) (gs.take k) st).1 hgx hok.ok (hso.mono hok.c) (Nat.le_trans hp1 hok.c) (Nat.le_trans hok2.c hqc) (by rw [List.length_map]; omega) (by omega) hqc
    generalize foldN (fmG s d env n typ row p) (gs.take k) st = q at *
    generalize fmG s d env n typ row p gs[k] q.2 = r at *
    rw [List.length_map, hkt, hll, hkt] at hfd
    have hkc : ∀ l : List Nd, AV.lowL 2 6 (l.map fun y => .rptr y.kenc) = true := fun l => AV.lowL_of_closed _ _ _ (Nd.kclosedL' _)
    have hkd : ∀ l : List Str, AV.lowL 2 6 (l.map AV.str) = true := fun l => AV.lowL_of_closed _ _ _ (str_closedL _)
    have hlw : ∀ (st : EvS) (ks : List Str) (xs : List Nd) (j : Nat), belowT 2 6 (evT st ++ [.vec [knP m ks (xs.map fun y => .rptr y.kenc)], .len j, .len j]) = true := fun st ks xs j => evT_lowP _ _ (by omega) _ _ (by simp only [belowT, Tok.low, AV.lowL, AV.low, knP, hkc, hkd]; rfl)
    have q1 := evB_low s d env q.2 6 (by omega)
    have q2 := hlw q.2 ((gs.take k).map Grp.key) q.1 k
    have q3 := evB_low s d env r.2 6 (by omega)
    have q4 := hlw r.2 ((gs.take k).map Grp.key ++ [gs[k].key]) (q.1 ++ [r.1]) (k + 1)
    have q0 : (evT q.2 ++ [Tok.vec [knP m ((gs.take k).map Grp.key) (q.1.map fun y => .rptr y.kenc)], .len k, .len k]).length ≤ (evT r.2 ++ [Tok.vec [knP m ((gs.take k).map Grp.key ++ [gs[k].key]) ((q.1 ++ [r.1]).map fun y => .rptr y.kenc)], .len (k + 1), .len (k + 1)]).length := Nat.le_refl _
    have hla : AV.lowL 2 6 [.ptr 0 0, plE (.vptr 3 10 1 0 0) typ row sels p, gs[k].enc, .nilfn] = true := by
      have := AV.low_of_closed 2 6 _ (Grp.closed gs[k])
      simp [plE, AV.lowL, AV.low, Mem.lowL, AV.lowL_of_closed _ _ _ (Step.closedL p), this]
    repeat' first | refine .br ?_ | refine .s1 ?_ | (refine .q ?_ ?_ <;> intro hc) | refine A.callPreB (B0 := evB s d env q.2) (B1 := evB s d env r.2) rfl hfd rfl rfl q0 q1 q2 q3 q4 hla rfl (WeakL.refl _) ?_ | fail
    refine ⟨h1, ⟨rfl, rfl, rfl, rfl, rfl, trivial⟩, ?_, ?_, ?_, trivial⟩
    · show belowS 2 6 _ = true
      have hgc : AV.lowL 2 6 (gs.map Grp.enc) = true := AV.lowL_of_closed _ _ _ (Grp.closedL _)
      simp [belowS, AV.low, hgc, plE, AV.lowL, Mem.lowL, AV.lowL_of_closed _ _ _ (Step.closedL p)]
    · show (belowB 2 6 (evB s d env r.2) && belowT 2 6 (evT r.2 ++ [.vec [knP m ((gs.take k).map Grp.key ++ [gs[k].key]) ((q.1 ++ [r.1]).map fun y => .rptr y.kenc)], .len (k + 1), .len (k + 1)])) = true
      rw [q3, q4]; rfl
    · show (⟨evB s d env r.2, evT r.2 ++ [.vec [knP m ((gs.take k).map Grp.key ++ [gs[k].key]) ((q.1 ++ [r.1]).map fun y => .rptr y.kenc)], .len (k + 1), .len (k + 1)]⟩ : St) = ⟨evB s d env (foldN (fmG s d env n typ row p) (gs.take (k + 1)) st).2, evT (foldN (fmG s d env n typ row p) (gs.take (k + 1)) st).2 ++ [.vec [knP m ((gs.take (k + 1)).map Grp.key) ((foldN (fmG s d env n typ row p) (gs.take (k + 1)) st).1.map fun y => .rptr y.kenc)], .len (k + 1), .len (k + 1)]⟩
      rw [htk, hkm]
  · have d1 : decide ((k : Int) < (gs.length : Int)) = false := by simp; omega
    obtain rfl : k = gs.length := by omega
    rw [List.take_length]
    generalize foldN (fmG s d env n typ row p) gs st = q at *
    refine .go ?_
    refine ⟨_, _, rfl, Turn.weakV (k := 3) (y := (Nd.mk 2 m val0 (gs.map Grp.key) q.1).kenc) rfl ?_ rfl, rfl, rfl⟩
    exact Weak.agg (WeakL.cons (Weak.refl _) (WeakL.cons (Weak.refl _) (WeakL.cons (Weak.refl _) (WeakL.cons (Weak.refl _) (WeakL.cons (Weak.refl _) (WeakL.cons (Weak.no (WeakL.eq (lv_mk _ _ _ _).symm)) (WeakL.cons (Weak.no (WeakL.eq (mv_mk _ _ _ _).symm)) (WeakL.cons (Weak.no (WeakL.refl _)) (WeakL.cons (Weak.refl _)
      (WeakL.cons (Weak.no (WeakL.eq (by rw [Nd.kl_eq]; rfl))) (WeakL.refl _)))))))))))
theorem placeOk (s : Sch) (d : Dcm) (env : List Mem) (hx : CtxOk s d env) : ∀ n : Nat, PlOk s d env (placeM s d env n false)
  | 0 => fun typ row sels p m st h hs hr hp hc => by
    have : (placeM s d env 0 false typ row sels p m st).2.c = st.c + 1000000000 := rfl
    omega
  | n + 1 => ePlace s d env hx n (placeOk s d env hx n)
theorem take_enc' {α : Type} {f : α → AV} {l : List α} {j : Nat} (h : j < l.length) : (l.take j).map f ++ [f l[j]] = (l.take (j + 1)).map f := by
  rw [List.take_succ_eq_append_getElem h, List.map_append]; rfl
mutual
def Nd.cnt : Nd → Nat
  | .mk _ _ _ ks l => Nd.cntL l + ks.length + 1
def Nd.cntL : List Nd → Nat
  | [] => 0
  | x :: l => Nd.cnt x + Nd.cntL l
end
theorem Nd.cntL_eq : ∀ l : List Nd, Nd.cntL l = sumSize Nd.cnt l
  | [] => by simp [Nd.cntL, sumSize]
  | v :: l => by rw [Nd.cntL, sumSize, Nd.cntL_eq l]
theorem Nd.cnt_eq (x : Nd) : x.cnt = sumSize Nd.cnt x.l + x.keys.length + 1 := by cases x; rw [Nd.cnt, Nd.cntL_eq]; rfl
theorem Nd.cnt_pos (x : Nd) : 1 ≤ x.cnt := by rw [Nd.cnt_eq]; omega
theorem Nd.cnt_l {x : Nd} {k : Nat} (h : k < x.l.length) : x.l[k].cnt < x.cnt := by
  have := sumSize_mem (size := Nd.cnt) (List.getElem_mem h)
  rw [x.cnt_eq]; omega
theorem Nd.l_len (x : Nd) : x.l.length < x.cnt := by
  have := sumSize_length Nd.cnt_pos x.l
  rw [x.cnt_eq]; omega
theorem Nd.kl_get {x : Nd} {k : Nat} (h : k < x.l.length) : x.kl[k]? = some (.rptr x.l[k].kenc) := by rw [x.kl_eq]; simp [h]
theorem Nd.kl_len (x : Nd) : x.kl.length = x.l.length := by rw [x.kl_eq, List.length_map]
theorem Nd.nl_get {x : Nd} {k : Nat} (h : k < x.l.length) : x.nl[k]? = some x.l[k].enc := by rw [x.nl_eq]; simp [h]
theorem Nd.nl_len (x : Nd) : x.nl.length = x.l.length := by rw [x.nl_eq, List.length_map]
theorem Nd.lowL (n m : Nat) (l : List Nd) : AV.lowL n m (l.map Nd.enc) = true := AV.lowL_of_closed n m _ (Nd.closedL' l)
theorem Nd.lowK (n m : Nat) (x : Nd) : AV.lowL n m x.kl = true := AV.lowL_of_closed n m _ (by rw [x.kl_eq]; exact Nd.kclosedL' _)
theorem Nd.nl_closed (x : Nd) : AV.closedL x.nl = true := by rw [x.nl_eq]; exact Nd.closedL' _
def nodeOb : Ob := .cells [.int .i64 0, .bool false, .int .i64 0, .int .i64 0, .str [], .slice [] .nil, .slice [] .nil, .slice [] .nil, .slice [] .nil]
theorem kNode : ∀ (N : Nat) (x : Nd), x.cnt ≤ N → N ≤ 68719476736 → PFn Tryz.prog 38 [.rptr x.kenc] x.enc
  | 0, x, h, _ => by have := x.cnt_pos; omega
  | N + 1, x, h, hN => by
    have ih := fun (k : Nat) (hk : k < x.l.length) => kNode N x.l[k] (by have := Nd.cnt_l hk; omega) (by omega)
    have hll := x.kl_len
    have hlt := x.l_len
    refine AFn.plain (Nd.closed x) (by simp [AV.closedL, AV.closed, Nd.kclosed]) (AFn.eR [.cell 2 129] Tryz.func38 ?_)
    repeat' first | refine .s1 ?_ | (refine .q ?_ ?_ <;> intro hc) | refine A.nilR rfl ?_ | fail
    refine HCode.adoptB 1 8 true 9 rfl rfl rfl rfl rfl rfl rfl rfl ?_
    refine HCode.forK x.l.length (fun k => [(15, .int .i64 k), (14, .int .i64 x.l.length), (13, .slice x.kl .no), (3, .ptr 1 0), (2, .ptr 0 0)])
      (fun k => ⟨[nodeOb, .cells [.int .i64 x.kind, .bool x.must, .int .i64 x.v.kind, .int .i64 x.v.n, .str x.v.s, .slice x.v.lv .no, .slice x.v.mv .no, .slice (x.keys.map AV.str) .no, .slice ((x.l.take k).map Nd.enc) (.own 0 9)]], [.len k]⟩) (fun _ => True)
      ⟨rfl, congrArg (AV.int .i64) (by rw [hll]), rfl, rfl, rfl, trivial⟩ rfl trivial fun k hk _ => ?_
    have htl : ((x.l.take k).map Nd.enc).length = k := by simp; omega
    by_cases h1 : k < x.l.length
    · have d1 : decide ((k : Int) < (x.l.length : Int)) = true := by simp [h1]
      have x1 := Nd.kl_get h1
      have hc := ih k h1
      have hte := take_enc' (f := Nd.enc) h1
      generalize x.l[k] = y at *
      repeat' first | refine .s1 ?_ | (refine .q ?_ ?_ <;> intro hc) | refine A.append (n := k) rfl rfl rfl rfl rfl rfl rfl rfl htl rfl (by dsimp only [List.length_cons, List.length_nil]; omega) (by dsimp only [List.length_cons, List.length_nil]; omega) rfl ?_ | fail
      refine ⟨h1, ⟨rfl, rfl, rfl, rfl, rfl, trivial⟩, by simp [belowS, AV.low, Nd.lowK], ?_, by rw [← hte]; rfl, trivial⟩
      have hb : AV.lowL 2 1 ((x.l.take k).map Nd.enc ++ [y.enc]) = true := by rw [hte]; exact Nd.lowL _ _ _
      simp [-List.map_take, belowB, belowT, Ob.low, Tok.low, AV.lowL, AV.low, nodeOb]
      exact hb
    · have d1 : decide ((k : Int) < (x.l.length : Int)) = false := by simp; omega
      obtain rfl : k = x.l.length := by omega
      rw [List.take_length]
      refine .go ?_
      refine FinR.ret1 rfl (Weak.agg (WeakL.cons (Weak.refl _) (WeakL.cons (Weak.refl _) (WeakL.cons (Weak.refl _) (WeakL.cons (Weak.refl _) (WeakL.cons (Weak.refl _) (WeakL.cons (Weak.refl _) (WeakL.cons (Weak.refl _) (WeakL.cons (Weak.refl _) (WeakL.cons (Weak.no (WeakL.eq ?_)) (WeakL.refl _)))))))))))
      rw [x.nl_eq]
def innerM (x : Nd) : Val := if x.kind = 0 then x.v else if x.kind = 1 then (match upL x.l with | some vs => .mk 6 0 [] vs [] | none => val0)
  else if x.kind = 2 then (match upP x.keys x.l with | some ms => .mk 7 0 [] [] ms | none => val0) else val0
theorem upM_eq (x : Nd) : upM x = if (innerM x).kind = 0 ∧ x.must = true then (val0, false) else (innerM x, true) := by cases x; rw [upM]; rfl
def memP : List Str → List Nd → List Mem
  | _, [] => []
  | keys, x :: l => .mk (keys.headD []) (upM x).1 :: memP keys.tail l
theorem upL_eq : ∀ l : List Nd, upL l = if l.all (fun x => (upM x).2) = true then some (l.map fun x => (upM x).1) else none
  | [] => by rw [upL]; rfl
  | x :: l => by
    rw [upL, upL_eq l, List.all_cons]
    cases (upM x).2 <;> cases l.all (fun x => (upM x).2) <;> simp
theorem upP_eq : ∀ (keys : List Str) (l : List Nd), upP keys l = if l.all (fun x => (upM x).2) = true then some (memP keys l) else none
  | _, [] => by rw [upP]; rfl
  | keys, x :: l => by
    rw [upP, upP_eq keys.tail l, List.all_cons, memP]
    cases (upM x).2 <;> cases l.all (fun x => (upM x).2) <;> simp
theorem memP_take : ∀ (keys : List Str) (l : List Nd) (k : Nat) (h : k < l.length), memP keys (l.take (k + 1)) = memP keys (l.take k) ++ [.mk (keys.getD k []) (upM l[k]).1]
  | keys, x :: l, 0, h => by cases keys <;> simp [memP]
  | keys, x :: l, k + 1, h => by
    have := memP_take keys.tail l k (by simpa using h)
    rw [List.take_succ_cons, List.take_succ_cons, memP, memP, this]
    cases keys <;> simp
theorem memP_len : ∀ (keys : List Str) (l : List Nd), (memP keys l).length = l.length
  | _, [] => rfl
  | keys, x :: l => by rw [memP, List.length_cons, memP_len keys.tail l, List.length_cons]
theorem all_take {α : Type} {p : α → Bool} {l : List α} {k : Nat} (h : k < l.length) : (l.take (k + 1)).all p = ((l.take k).all p && p l[k]) := by
  rw [List.take_succ_eq_append_getElem h, List.all_append]; simp
theorem all_no {α : Type} {p : α → Bool} {l : List α} {k : Nat} (h : k < l.length) (hp : p l[k] = false) : l.all p = false := by
  rw [List.all_eq_false]; exact ⟨l[k], List.getElem_mem h, by simp [hp]⟩
theorem tKey (x : Nd) (i : Nat) (hk : x.keys.length ≤ 68719476736) (hi : i ≤ 68719476736) : PFn Tryz.prog 121 [x.enc, .int .i64 i] (.str (x.keys.getD i [])) := by
  refine AFn.plain rfl (by simp [AV.closedL, AV.closed, Nd.closed]) (AFn.en [4] Tryz.func121 ?_)
  by_cases h1 : i < x.keys.length
  · have d1 : decide ((i : Int) < (x.keys.length : Int)) = true := by simp [h1]
    have x1 := map_get' (f := AV.str) h1
    refine .gob ?_
    exact Fin.ret1 rfl (Weak.eq (by simp [List.getD, h1]))
  · have d1 : decide ((i : Int) < (x.keys.length : Int)) = false := by simp; omega
    refine .gob ?_
    exact Fin.ret1 rfl (Weak.eq (by simp [List.getD, show ¬ i < x.keys.length from h1]))
theorem take_upL {l : List Nd} {k : Nat} (h : k < l.length) : ((l.take k).map fun y => (upM y).1.enc) ++ [(upM l[k]).1.enc] = (l.take (k + 1)).map fun y => (upM y).1.enc := by
  rw [List.take_succ_eq_append_getElem h, List.map_append]; rfl
def valOb (k : Int) : Ob := .cells [.int .i64 k, .int .i64 0, .str [], .slice [] .nil, .slice [] .nil]
theorem lowUp (n m : Nat) (l : List Nd) : AV.lowL n m (l.map fun y => (upM y).1.enc) = true := AV.lowL_of_closed n m _ (closedL_map (fun y => Val.closed _) l)
theorem tInner (x : Nd) (hx : x.cnt ≤ 68719476736) (ih : ∀ k (h : k < x.l.length), PFn Tryz.prog 37 [x.l[k].enc] (.tup [(upM x.l[k]).1.enc, .bool (upM x.l[k]).2])) :
    PFn Tryz.prog 77 [x.enc] (innerM x).enc := by
  have hll := x.nl_len
  have hlt := x.l_len
  have hce := x.cnt_eq
  have hkk : x.keys.length ≤ 68719476736 := by omega
  refine AFn.plain (Val.closed _) (by simp [AV.closedL, AV.closed, Nd.closed]) (AFn.eR [.cell 2 38] Tryz.func77 ?_)
  by_cases c0 : x.kind = 0
  · have e0 : (x.kind == 0) = true := by rw [c0]; rfl
    have hi : innerM x = x.v := by unfold innerM; rw [if_pos c0]
    rw [hi]
    repeat' first | refine .br ?_ | refine .s1 ?_ | (refine .q ?_ ?_ <;> intro hc) | fail
    exact FinR.r0
  have e0 : (x.kind == 0) = false := by simpa using c0
  by_cases c1 : x.kind = 1
  · have e1 : (x.kind == 1) = true := by rw [c1]; rfl
    have e2 : (x.kind == 2) = false := by rw [c1]; rfl
    have hi : innerM x = match upL x.l with | some vs => Val.mk 6 0 [] vs [] | none => val0 := by unfold innerM; rw [if_neg c0, if_pos c1]; first | done | (cases upL x.l <;> rfl)
    rw [hi, upL_eq]
    refine .gob ?_
    refine HCode.adoptB 1 3 true 5 rfl rfl rfl rfl rfl rfl rfl rfl ?_
    refine HCode.forK x.l.length (fun k => [(24, .int .i64 k), (23, .int .i64 x.l.length), (22, .slice x.nl .no), (3, .ptr 1 0), (2, .ptr 0 0), (1, .rptr x.enc)])
      (fun k => ⟨[valOb 0, .cells [.int .i64 6, .int .i64 0, .str [], .slice ((x.l.take k).map fun y => (upM y).1.enc) (.own 0 5), .slice [] .nil]], [.len k]⟩) (fun k => ((x.l.take k).all fun y => (upM y).2) = true)
      ⟨rfl, congrArg (AV.int .i64) (by rw [hll]), rfl, rfl, rfl, rfl, trivial⟩ rfl rfl fun k hk hj => ?_
    have htl : ((x.l.take k).map fun y => (upM y).1.enc).length = k := by simp; omega
    by_cases h1 : k < x.l.length
    · have d1 : decide ((k : Int) < (x.l.length : Int)) = true := by simp [h1]
      have x1 := Nd.nl_get h1
      have hc := ih k h1
      have hte := take_upL h1
      have hat := all_take (p := fun y : Nd => (upM y).2) h1
      have han := all_no (p := fun y : Nd => (upM y).2) h1
      cases hb : (upM x.l[k]).2 with
      | false =>
        rw [hb] at hc
        rw [han hb]
        generalize x.l[k] = y at *
        refine .go ?_
        exact FinR.ret1 rfl weak_flatV
      | true =>
        rw [hb] at hc
        simp only [hj, hb, Bool.and_self] at hat
        have hlow : AV.lowL 2 1 (((x.l.take k).map fun y => (upM y).1.enc) ++ [(upM x.l[k]).1.enc]) = true := by rw [hte]; exact lowUp _ _ _
        generalize x.l[k] = y at *
        repeat' first | refine .s1 ?_ | (refine .q ?_ ?_ <;> intro hc) | refine A.append (n := k) rfl rfl rfl rfl rfl rfl rfl rfl htl rfl (by dsimp only [List.length_cons, List.length_nil]; omega) (by dsimp only [List.length_cons, List.length_nil]; omega) rfl ?_ | fail
        refine ⟨h1, ⟨rfl, rfl, rfl, rfl, rfl, rfl, trivial⟩, by simp [belowS, AV.low, AV.lowL_of_closed _ _ _ x.nl_closed, AV.low_of_closed _ _ _ x.closed], ?_, by rw [← hte]; rfl, hat⟩
        simp [-List.map_take, belowB, belowT, Ob.low, Tok.low, AV.lowL, AV.low, valOb]
        exact hlow
    · have d1 : decide ((k : Int) < (x.l.length : Int)) = false := by simp; omega
      obtain rfl : k = x.l.length := by omega
      rw [List.take_length] at hj ⊢
      rw [if_pos hj]
      refine .go ?_
      refine FinR.ret1 rfl ?_
      have : (Val.mk 6 0 [] (x.l.map fun y => (upM y).1) []).enc = .agg [.int .i64 6, .int .i64 0, .str [], .slice (x.l.map fun y => (upM y).1.enc) .no, .slice [] .no] := by
        unfold Val.enc
        rw [Val.lv_eq, Val.mv_eq]
        simp only [Val.l, Val.m, Val.kind, Val.n, Val.s, List.map_map, List.map_nil]
        rfl
      rw [this]
      exact Weak.agg (WeakL.cons (Weak.refl _) (WeakL.cons (Weak.refl _) (WeakL.cons (Weak.refl _) (WeakL.cons (Weak.no (WeakL.refl _)) (WeakL.cons (Weak.no (WeakL.refl _)) (WeakL.refl _))))))
  have e1 : (x.kind == 1) = false := by simpa using c1
  by_cases c2 : x.kind = 2
  · have e2 : (x.kind == 2) = true := by rw [c2]; rfl
    have hi : innerM x = match upP x.keys x.l with | some ms => Val.mk 7 0 [] [] ms | none => val0 := by unfold innerM; rw [if_neg c0, if_neg c1, if_pos c2]; first | done | (cases upP x.keys x.l <;> rfl)
    rw [hi, upP_eq]
    refine .gob ?_
    refine HCode.adoptB 1 4 true 6 rfl rfl rfl rfl rfl rfl rfl rfl ?_
    refine HCode.forK x.l.length (fun k => [(24, .int .i64 k), (23, .int .i64 x.l.length), (22, .slice x.nl .no), (3, .ptr 1 0), (2, .ptr 0 0), (1, .rptr x.enc)])
      (fun k => ⟨[valOb 0, .cells [.int .i64 7, .int .i64 0, .str [], .slice [] .nil, .slice ((memP x.keys (x.l.take k)).map Mem.enc) (.own 0 6)]], [.len k]⟩) (fun k => ((x.l.take k).all fun y => (upM y).2) = true)
      ⟨rfl, congrArg (AV.int .i64) (by rw [hll]), rfl, rfl, rfl, rfl, trivial⟩ rfl rfl fun k hk hj => ?_
    have htl : ((memP x.keys (x.l.take k)).map Mem.enc).length = k := by rw [List.length_map, memP_len, List.length_take]; omega
    by_cases h1 : k < x.l.length
    · have d1 : decide ((k : Int) < (x.l.length : Int)) = true := by simp [h1]
      have x1 := Nd.nl_get h1
      have hc := ih k h1
      have hte := memP_take x.keys x.l k h1
      have hat := all_take (p := fun y : Nd => (upM y).2) h1
      have han := all_no (p := fun y : Nd => (upM y).2) h1
      have hky := tKey x k hkk (by omega)
      cases hb : (upM x.l[k]).2 with
      | false =>
        rw [hb] at hc
        rw [han hb]
        generalize x.l[k] = y at *
        refine .go ?_
        exact FinR.ret1 rfl weak_flatV
      | true =>
        rw [hb] at hc
        simp only [hj, hb, Bool.and_self] at hat
        have hlow : AV.lowL 2 1 ((memP x.keys (x.l.take k)).map Mem.enc ++ [Mem.enc (.mk (x.keys.getD k []) (upM x.l[k]).1)]) = true := by
          have := Mem.lowL 2 1 (memP x.keys (x.l.take (k + 1)))
          rwa [hte, List.map_append] at this
        generalize x.l[k] = y at *
        repeat' first | refine .s1 ?_ | (refine .q ?_ ?_ <;> intro hc) | refine A.append (n := k) rfl rfl rfl rfl rfl rfl rfl rfl htl rfl (by dsimp only [List.length_cons, List.length_nil]; omega) (by dsimp only [List.length_cons, List.length_nil]; omega) rfl ?_ | fail
        refine ⟨h1, ⟨rfl, rfl, rfl, rfl, rfl, rfl, trivial⟩, by simp [belowS, AV.low, AV.lowL_of_closed _ _ _ x.nl_closed, AV.low_of_closed _ _ _ x.closed], ?_, by rw [hte, List.map_append]; rfl, hat⟩
        simp [-List.map_take, belowB, belowT, Ob.low, Tok.low, AV.lowL, AV.low, valOb]
        exact hlow
    · have d1 : decide ((k : Int) < (x.l.length : Int)) = false := by simp; omega
      obtain rfl : k = x.l.length := by omega
      rw [List.take_length] at hj ⊢
      rw [if_pos hj]
      refine .go ?_
      refine FinR.ret1 rfl ?_
      have : (Val.mk 7 0 [] [] (memP x.keys x.l)).enc = .agg [.int .i64 7, .int .i64 0, .str [], .slice [] .no, .slice ((memP x.keys x.l).map Mem.enc) .no] := by
        unfold Val.enc
        rw [Val.lv_eq, Val.mv_eq]
        rfl
      rw [this]
      exact Weak.agg (WeakL.cons (Weak.refl _) (WeakL.cons (Weak.refl _) (WeakL.cons (Weak.refl _) (WeakL.cons (Weak.no (WeakL.refl _)) (WeakL.cons (Weak.no (WeakL.refl _)) (WeakL.refl _))))))
  · have e2 : (x.kind == 2) = false := by simpa using c2
    have hi : innerM x = val0 := by unfold innerM; rw [if_neg c0, if_neg c1, if_neg c2]
    rw [hi]
    refine .gob ?_
    exact FinR.ret1 rfl weak_flatV
theorem tUp : ∀ (N : Nat) (x : Nd), x.cnt ≤ N → N ≤ 68719476736 → PFn Tryz.prog 37 [x.enc] (.tup [(upM x).1.enc, .bool (upM x).2])
  | 0, x, h, _ => by have := x.cnt_pos; omega
  | N + 1, x, h, hN => by
    have hin := tInner x (by omega) fun k hk => tUp N x.l[k] (by have := Nd.cnt_l hk; omega) (by omega)
    refine AFn.plain (by simp [AV.closed, AV.closedL, Val.closed]) (by simp [AV.closedL, AV.closed, Nd.closed]) (AFn.eR [.cell 2 38, .tmp 3] Tryz.func37 ?_)
    rw [upM_eq]
    generalize innerM x = w at hin
    cases hm : x.must with
    | false =>
      rw [if_neg (by simp)]
      refine .gob ?_
      exact FinR.r0
    | true =>
      by_cases hw : w.kind = 0
      · have e0 : (w.kind == 0) = true := by rw [hw]; rfl
        rw [if_pos ⟨hw, rfl⟩]
        refine .gob ?_
        exact FinR.ret1 rfl (Weak.tup (WeakL.cons weak_flatV (WeakL.refl _)))
      · have e0 : (w.kind == 0) = false := by simpa using hw
        rw [if_neg (by simp [hw])]
        refine .gob ?_
        exact FinR.r0
end Go.Proofs.YtmfmdehfbpkgdaaGreatDoor
namespace Go.Proofs.YtmfmdehfbpkgdaaGreatDoor
open Go Go.Av
def sprM : List Sl → List Str → List Str
  | [], acc => acc
  | .mk k a nm ar di on se :: l, acc => sprM l (sprM se (if k = 1 then addNew acc nm else acc))
termination_by l => Sl.sizeL l
decreasing_by
  all_goals simp_wf
  all_goals simp only [Sl.sizeL, Sl.size]
  all_goals omega
theorem sprM_nil (acc : List Str) : sprM [] acc = acc := by rw [sprM]
theorem sprM_cons (x : Sl) (l : List Sl) (acc : List Str) : sprM (x :: l) acc = sprM l (sprM x.sels (if x.kind = 1 then addNew acc x.name else acc)) := by
  cases x; rw [sprM]; rfl
theorem sprM_app : ∀ (a b : List Sl) (acc : List Str), sprM (a ++ b) acc = sprM b (sprM a acc)
  | [], b, acc => by rw [List.nil_append, sprM_nil]
  | x :: a, b, acc => by rw [List.cons_append, sprM_cons, sprM_app a b, sprM_cons]
theorem sprM_take {l : List Sl} {k : Nat} (h : k < l.length) (acc : List Str) : sprM (l.take (k + 1)) acc = sprM l[k].sels (if l[k].kind = 1 then addNew (sprM (l.take k) acc) l[k].name else sprM (l.take k) acc) := by
  rw [List.take_succ_eq_append_getElem h, sprM_app, sprM_cons, sprM_nil]
theorem sprM_facts : ∀ (N : Nat) (l : List Sl) (acc : List Str), sumSize Sl.size l ≤ N → (∃ ys, sprM l acc = acc ++ ys) ∧ (acc.Nodup → (sprM l acc).Nodup) ∧ (sprM l acc).length ≤ acc.length + sumSize Sl.size l
  | _, [], acc, _ => by rw [sprM_nil]; exact ⟨⟨[], by simp⟩, id, by omega⟩
  | 0, x :: l, acc, h => by rw [sumSize] at h; have := x.size_pos; omega
  | N + 1, x :: l, acc, h => by
    rw [sumSize] at h
    have hx := x.size_eq
    rw [sprM_cons, sumSize]
    have h0 : (∃ ys, (if x.kind = 1 then addNew acc x.name else acc) = acc ++ ys) ∧ (acc.Nodup → (if x.kind = 1 then addNew acc x.name else acc).Nodup) ∧ (if x.kind = 1 then addNew acc x.name else acc).length ≤ acc.length + 1 := by
      split
      · unfold addNew
        split
        · exact ⟨⟨[], by simp⟩, id, by omega⟩
        · rename_i hn
          refine ⟨⟨_, rfl⟩, fun hd => ?_, by simp⟩
          rw [List.nodup_append]
          exact ⟨hd, by simp, fun a ha b hb => by rw [List.mem_singleton.1 hb]; exact fun e => hn (e ▸ ha)⟩
      · exact ⟨⟨[], by simp⟩, id, by omega⟩
    generalize (if x.kind = 1 then addNew acc x.name else acc) = a1 at *
    obtain ⟨⟨y0, e0⟩, n0, l0⟩ := h0
    obtain ⟨⟨y1, e1⟩, n1, l1⟩ := sprM_facts N x.sels a1 (by omega)
    obtain ⟨⟨y2, e2⟩, n2, l2⟩ := sprM_facts N l (sprM x.sels a1) (by have := x.size_pos; omega)
    exact ⟨⟨y0 ++ (y1 ++ y2), by rw [e2, e1, e0]; simp⟩, fun h => n2 (n1 (n0 h)), by omega⟩
theorem sprM_len (l : List Sl) (acc : List Str) : (sprM l acc).length ≤ acc.length + sumSize Sl.size l := (sprM_facts _ l acc (Nat.le_refl _)).2.2
def reachF (d : Dcm) : Nat → Nat → List Str → List Str
  | 0, _, l => l
  | n + 1, i, l => match l[i]? with
    | none => l
    | some nm => reachF d n (i + 1) (match fragO d nm with | some f => sprM f.sels l | none => l)
def fuelR (d : Dcm) (l : List Sl) : Nat := sumSize Sl.size l + sumSize (fun f : Frg => sumSize Sl.size f.sels) d.frags
def reachL (d : Dcm) (l : List Sl) : List Str := reachF d (fuelR d l) 0 (sprM l [])
def loopsB (d : Dcm) : Bool := d.frags.any fun f => decide (f.name ∈ reachL d f.sels)
structure ReachAt (d : Dcm) (sels : List Sl) (i : Nat) (l : List Str) : Prop where
  fin : reachF d (fuelR d sels - i) i l = reachL d sels
  lei : i ≤ l.length
  nodup : l.Nodup
  len : l.length + sumSize (fun f : Frg => sumSize Sl.size f.sels) (unmet d (l.take i)) ≤ fuelR d sels
theorem reach_zero (d : Dcm) (sels : List Sl) : ReachAt d sels 0 (sprM sels []) where
  fin := rfl
  lei := Nat.zero_le _
  nodup := (sprM_facts _ sels [] (Nat.le_refl _)).2.1 List.nodup_nil
  len := by
    have h1 := sprM_len sels []
    rw [List.take_zero, show unmet d [] = d.frags from List.filter_eq_self.2 (by simp)]
    unfold fuelR
    simp only [List.length_nil] at h1
    omega
theorem reach_next {d : Dcm} {sels : List Sl} {i : Nat} {l : List Str} (h : ReachAt d sels i l) (hi : i < l.length) : ReachAt d sels (i + 1) (match fragO d l[i] with | some f => sprM f.sels l | none => l) := by
  have hlen := h.len
  have htk : l.take (i + 1) = l.take i ++ [l[i]] := List.take_succ_eq_append_getElem hi
  have hnm : l[i] ∉ l.take i := by
    intro hm
    obtain ⟨j, hj, e⟩ := List.getElem_of_mem hm
    rw [List.length_take] at hj
    rw [List.getElem_take] at e
    exact (List.pairwise_iff_getElem.1 h.nodup) j i (by omega) hi (by omega) e
  have hstep : reachF d (fuelR d sels - (i + 1)) (i + 1) (match fragO d l[i] with | some f => sprM f.sels l | none => l) = reachL d sels := by
    rw [← h.fin, show fuelR d sels - i = fuelR d sels - (i + 1) + 1 by omega, reachF, List.getElem?_eq_getElem hi]
  cases hf : fragO d l[i] with
  | none =>
    rw [hf] at hstep
    refine ⟨hstep, by dsimp only; omega, h.nodup, ?_⟩
    rw [htk]
    have := unmet_w d (l.take i) l[i] (fun f : Frg => sumSize Sl.size f.sels)
    dsimp only
    omega
  | some f =>
    rw [hf] at hstep
    obtain ⟨hm, hfn⟩ := fragO_mem hf
    obtain ⟨⟨ys, e1⟩, n1, l1⟩ := sprM_facts _ f.sels l (Nat.le_refl _)
    refine ⟨hstep, by dsimp only; rw [e1, List.length_append]; omega, n1 h.nodup, ?_⟩
    dsimp only
    have e2 : (sprM f.sels l).take (i + 1) = l.take i ++ [l[i]] := by
      rw [e1, List.take_append_of_le_length (by omega), htk]
    rw [e2, ← hfn]
    have := unmet_wone d (l.take i) hm (by rw [hfn]; exact hnm) (fun f : Frg => sumSize Sl.size f.sels)
    omega
theorem reach_end {d : Dcm} {sels : List Sl} {i : Nat} {l : List Str} (h : ReachAt d sels i l) (hi : l.length ≤ i) : reachL d sels = l := by
  rw [← h.fin]
  cases fuelR d sels - i with
  | zero => rfl
  | succ n => rw [reachF, List.getElem?_eq_none hi]
end Go.Proofs.YtmfmdehfbpkgdaaGreatDoor
namespace Go.Proofs.YtmfmdehfbpkgdaaGreatDoor
open Go Go.Av
attribute [local irreducible] HCode AOps PFn AFn Av.Step TStep
def SprC (l : List Sl) (xs : List Str) : Prop := AFn Tryz.prog 100 [.slice (xs.map AV.str) (.own 0 1), .slice (l.map Sl.enc) .no] ⟨[], [.len xs.length]⟩ (fun e σ => e = .ret (.slice ((sprM l xs).map AV.str) (.own 0 1)) ∧ σ = ⟨[], [.len (sprM l xs).length]⟩)
theorem sprBody (l : List Sl) (hl : sumSize Sl.size l ≤ 68719476736) (ih : ∀ x ∈ l, ∀ ys : List Str, ys.length + sumSize Sl.size x.sels ≤ 137438953472 → SprC x.sels ys) (xs : List Str) (hxs : xs.length + sumSize Sl.size l ≤ 137438953472) :
    HCode Tryz.prog Tryz.f100.ntmps [] (bodyOf Tryz.f100) (fin [4] (fun e σ => e = .ret (.slice ((sprM l xs).map AV.str) (.own 0 1)) ∧ σ = ⟨[], [.len (sprM l xs).length]⟩))
      [(0, .slice (xs.map AV.str) (.own 0 1)), (1, .slice (l.map Sl.enc) .no)] ⟨[], [.len xs.length]⟩ := by
  have hll := sumSize_length Sl.size_pos l
  refine .gob ?_
  refine HCode.forK l.length (fun k => [(9, .int .i64 k), (8, .int .i64 l.length), (7, .slice (l.map Sl.enc) .no), (0, .slice ((sprM (l.take k) xs).map AV.str) (.own 0 1))])
    (fun k => ⟨[], [.len (sprM (l.take k) xs).length]⟩) (fun _ => True) ⟨rfl, rfl, rfl, by rw [List.take_zero, sprM_nil]; rfl, trivial⟩ (by rw [List.take_zero, sprM_nil]) trivial fun k hk _ => ?_
  by_cases h1 : k < l.length
  · have d1 : decide ((k : Int) < (l.length : Int)) = true := by simp [h1]
    have x1 := map_get' (f := Sl.enc) h1
    have hlen := sprM_len (l.take k) xs
    have hst := sum_take (f := Sl.size) h1
    have hsm := sum_mono Sl.size l (k + 1)
    have hxs := l[k].size_eq
    have hR := sprM_take h1 xs
    have hi := ih l[k] (List.getElem_mem h1)
    generalize sprM (l.take k) xs = ys at *
    generalize sprM (l.take (k + 1)) xs = R at *
    generalize l[k] = x at *
    have hct := sContainsStr ys x.name (by omega)
    have hwk : WeakL [.slice (ys.map AV.str) (.own 0 1), .str x.name] [.slice (ys.map AV.str) .no, .str x.name] := WeakL.cons (Weak.no (WeakL.refl _)) (WeakL.refl _)
    by_cases c1 : x.kind = 1
    · have e1 : (x.kind == 1) = true := by rw [c1]; rfl
      rw [if_pos c1] at hR
      unfold addNew at hR
      by_cases c2 : x.name ∈ ys
      · rw [decide_eq_true c2] at hct
        rw [if_pos c2] at hR
        have hcc := hi ys (by omega)
        unfold SprC at hcc
        rw [← hR, ← x.sv_eq] at hcc
        repeat' first | refine A.call rfl hct hwk ?_ | refine .s1 ?_ | (refine .q ?_ ?_ <;> intro hc) | refine A.callG 0 rfl hcc rfl (str_closedL _) (str_closedL _) (by simp [AV.closedL, AV.closed, Sl.sv_closed]) (WeakL.refl _) rfl ?_ | fail
        exact ⟨h1, ⟨rfl, rfl, rfl, rfl, trivial⟩, by simp [belowS, AV.low], rfl, rfl, trivial⟩
      · rw [decide_eq_false c2] at hct
        rw [if_neg c2] at hR
        have hcc := hi (ys ++ [x.name]) (by rw [List.length_append, List.length_cons, List.length_nil]; omega)
        unfold SprC at hcc
        rw [← hR, ← x.sv_eq, List.map_append, List.length_append] at hcc
        have hcl : AV.closedL (ys.map AV.str ++ [AV.str x.name]) = true := by
          have := str_closedL (ys ++ [x.name])
          rwa [List.map_append] at this
        repeat' first | refine A.call rfl hct hwk ?_ | refine .s1 ?_ | (refine .q ?_ ?_ <;> intro hc) | refine A.append (n := ys.length) rfl rfl rfl rfl rfl rfl rfl rfl (List.length_map ..) rfl (by dsimp only [List.length_cons, List.length_nil]; omega) (by dsimp only [List.length_cons, List.length_nil]; omega) rfl ?_ | refine A.callG 0 rfl hcc rfl hcl (str_closedL _) (by simp [AV.closedL, AV.closed, Sl.sv_closed]) (WeakL.refl _) rfl ?_ | fail
        exact ⟨h1, ⟨rfl, rfl, rfl, rfl, trivial⟩, by simp [belowS, AV.low], rfl, rfl, trivial⟩
    · have e1 : (x.kind == 1) = false := by simpa using c1
      rw [if_neg c1] at hR
      have hcc := hi ys (by omega)
      unfold SprC at hcc
      rw [← hR, ← x.sv_eq] at hcc
      repeat' first | refine .s1 ?_ | (refine .q ?_ ?_ <;> intro hc) | refine A.callG 0 rfl hcc rfl (str_closedL _) (str_closedL _) (by simp [AV.closedL, AV.closed, Sl.sv_closed]) (WeakL.refl _) rfl ?_ | fail
      exact ⟨h1, ⟨rfl, rfl, rfl, rfl, trivial⟩, by simp [belowS, AV.low], rfl, rfl, trivial⟩
  · have d1 : decide ((k : Int) < (l.length : Int)) = false := by simp; omega
    obtain rfl : k = l.length := by omega
    rw [List.take_length]
    refine .go ?_
    exact ⟨rfl, rfl⟩
theorem sprC : ∀ (N : Nat) (l : List Sl), sumSize Sl.size l ≤ N → N ≤ 68719476736 → ∀ xs : List Str, xs.length + sumSize Sl.size l ≤ 137438953472 → SprC l xs
  | N, l, h, hN => fun xs hxs => by
    refine AFn.en [4] Tryz.func100 (sprBody l (by omega) (fun x hx ys hy => ?_) xs hxs)
    have h1 := sumSize_mem (size := Sl.size) hx
    have h2 := x.size_eq
    exact sprC (N - 1) x.sels (by omega) (by omega) ys hy
termination_by N => N
decreasing_by have := x.size_pos; omega
theorem sprNil (l : List Sl) (hl : sumSize Sl.size l ≤ 68719476736) : AFn Tryz.prog 100 [.slice [] .nil, .slice (l.map Sl.enc) .no] ⟨[], []⟩ (fun e σ => e = .ret (.slice ((sprM l []).map AV.str) (.own 0 1)) ∧ σ = ⟨[], [.len (sprM l []).length]⟩) := by
  refine AFn.en [4] Tryz.func100 ?_
  refine HCode.adopt 0 false 1 rfl rfl rfl rfl rfl rfl ?_
  exact HCode.weaken (s := [(0, .slice [] (.own 0 1)), (1, .slice (l.map Sl.enc) .no)]) (sprBody l hl (fun x hx ys hy => sprC 68719476736 x.sels (by
    have h1 := sumSize_mem (size := Sl.size) hx
    have h2 := x.size_eq
    omega) (Nat.le_refl _) ys hy) [] (by simp only [List.length_nil]; omega)) ⟨rfl, rfl, trivial⟩
theorem gReached (d : Dcm) (sels : List Sl) (hd : fuelR d sels ≤ 68719476736) (hdl : d.frags.length ≤ 68719476736) : PFn Tryz.prog 58 [d.enc, .slice (sels.map Sl.enc) .no] (.slice ((reachL d sels).map AV.str) .no) := by
  have hsz : sumSize Sl.size sels ≤ fuelR d sels := by unfold fuelR; omega
  have h0 := sprNil sels (by omega)
  refine AFn.plain (by simp [AV.closed, str_closedL]) (by simp [AV.closed, AV.closedL, Dcm.closed, Sl.closedL]) (AFn.en [4] Tryz.func58 ?_)
  repeat' first | refine .br ?_ | refine .s1 ?_ | (refine .q ?_ ?_ <;> intro hc) | refine A.callN rfl rfl h0 (by simp [AV.closedL, AV.closed, Sl.closedL]) (WeakL.refl _) (by simp [AV.low]) rfl ?_ | fail
  change HCode _ _ _ _ _ _ _
  refine HCode.loop (fun n' s' σ => ∃ (i : Nat) (l : List Str), n' = fuelR d sels - i ∧ ReachAt d sels i l ∧ σ = ⟨[], [.len l.length]⟩ ∧ s' = [(6, .int .i64 i), (5, .slice (l.map AV.str) (.own 0 1)), (2, .rptr d.enc)])
    (s0 := [(6, .int .i64 (0 : Nat)), (5, .slice ((sprM sels []).map AV.str) (.own 0 1)), (2, .rptr d.enc)]) ⟨rfl, rfl, rfl, trivial⟩ ⟨0, _, rfl, reach_zero d sels, rfl, rfl⟩ ?_
  rintro n' s' σ ⟨i, l, rfl, hI, rfl, rfl⟩
  have hlen := hI.len
  have hlei := hI.lei
  by_cases h1 : i < l.length
  · have d1 : decide ((i : Int) ≥ (l.length : Int)) = false := decide_eq_false (by omega)
    have x1 := map_get' (f := AV.str) h1
    have hn := reach_next hI h1
    have hln := hn.len
    have hf := gFrag d l[i] hdl
    unfold fragR at hf
    cases hfr : fragO d l[i] with
    | none =>
      rw [hfr] at hf hn
      dsimp only at hf hn
      generalize l[i] = nm at *
      repeat' first | refine .s1 ?_ | (refine .q ?_ ?_ <;> intro hc) | fail
      exact ⟨fuelR d sels - (i + 1), by omega, [(6, .int .i64 ((i + 1 : Nat) : Int)), (5, .slice (l.map AV.str) (.own 0 1)), (2, .rptr d.enc)], ⟨rfl, rfl, rfl, trivial⟩, by simp [belowS, AV.low], rfl, i + 1, l, rfl, hn, rfl, rfl⟩
    | some f =>
      rw [hfr] at hf hn hln
      dsimp only at hf hn hln
      generalize l[i] = nm at *
      obtain ⟨hm, hfn⟩ := fragO_mem hfr
      have hfs := sumSize_mem (size := fun f : Frg => sumSize Sl.size f.sels) hm
      have hff : sumSize Sl.size f.sels ≤ fuelR d sels := by unfold fuelR; omega
      have hcc := sprC (fuelR d sels) f.sels hff hd l (by omega)
      unfold SprC at hcc
      repeat' first | refine .s1 ?_ | (refine .q ?_ ?_ <;> intro hc) | refine A.callG 0 rfl hcc rfl (str_closedL _) (str_closedL _) (by simp [AV.closedL, AV.closed, Sl.closedL]) (WeakL.refl _) rfl ?_ | fail
      exact ⟨fuelR d sels - (i + 1), by omega, [(6, .int .i64 ((i + 1 : Nat) : Int)), (5, .slice ((sprM f.sels l).map AV.str) (.own 0 1)), (2, .rptr d.enc)], ⟨rfl, rfl, rfl, trivial⟩, by simp [belowS, AV.low], rfl, i + 1, _, rfl, hn, rfl, rfl⟩
  · have d1 : decide ((i : Int) ≥ (l.length : Int)) = true := decide_eq_true (by omega)
    rw [reach_end hI (by omega)]
    repeat' first | refine .s1 ?_ | (refine .q ?_ ?_ <;> intro hc) | fail
    exact Fin.ret1 rfl (Weak.no (WeakL.refl _))
theorem gLoops1 (d : Dcm) (f : Frg) (hf : f ∈ d.frags) (hd : d.size ≤ 1048576) : PFn Tryz.prog 56 [f.enc, .rptr d.enc] (.bool (decide (f.name ∈ reachL d f.sels))) := by
  have h1 := sumSize_mem (size := fun f : Frg => sumSize Sl.size f.sels) hf
  have h2 : sumSize (fun f : Frg => sumSize Sl.size f.sels) d.frags ≤ sumSize Frg.size d.frags := sum_le (fun f => by unfold Frg.size; omega) _
  have h3 : sumSize Frg.size d.frags ≤ d.size := by unfold Dcm.size; omega
  have h4 := sumSize_length (size := Frg.size) (fun f => by unfold Frg.size; omega) d.frags
  have hfu : fuelR d f.sels ≤ 2097152 := by unfold fuelR; omega
  have hr := gReached d f.sels (by omega) (by omega)
  have hlen : (reachL d f.sels).length ≤ 9223372036854775807 := by
    have key : ∀ (n i : Nat) (l : List Str), ReachAt d f.sels i l → fuelR d f.sels - i ≤ n → (reachL d f.sels).length ≤ fuelR d f.sels := by
      intro n
      induction n with
      | zero =>
        intro i l h hn
        have := h.len
        rw [reach_end h (by have := h.lei; omega)]; omega
      | succ n ih =>
        intro i l h hn
        by_cases hi : i < l.length
        · exact ih (i + 1) _ (reach_next h hi) (by omega)
        · have := h.len
          rw [reach_end h (by omega)]; omega
    have := key _ 0 _ (reach_zero d f.sels) (Nat.le_refl _)
    omega
  have hc := sContainsStr (reachL d f.sels) f.name hlen
  refine AFn.plain rfl (by simp [AV.closed, AV.closedL, Frg.closed, Dcm.closed]) (AFn.en [3] Tryz.func56 ?_)
  refine .gob ?_
  exact Fin.r0
theorem sContainsFFrg (l : List Frg) (f : FuncId) (cs : List AV) (p : Frg → Bool) (hl : l.length ≤ 9223372036854775807) (hcl : AV.closedL cs = true) (hf : ∀ x ∈ l, PFn Tryz.prog f (x.enc :: cs) (.bool (p x))) :
    PFn Tryz.prog 55 [.slice (l.map Frg.enc) .no, .fn (.func f) [] cs] (.bool (l.any p)) := by
  have h := sIndexFFrg l f cs p hl hcl hf
  refine AFn.plain rfl (by simp [AV.closed, AV.closedL, Frg.closedL, hcl]) (AFn.en [4] Tryz.func55 ?_)
  refine .go ?_
  exact Fin.ret1 rfl (Weak.eq (congrArg AV.bool (idx_any p l)))
theorem gLoops (d : Dcm) (hd : d.size ≤ 1048576) : PFn Tryz.prog 26 [d.enc] (.bool (loopsB d)) := by
  have h3 : sumSize Frg.size d.frags ≤ d.size := by unfold Dcm.size; omega
  have h4 := sumSize_length (size := Frg.size) (fun f => by unfold Frg.size; omega) d.frags
  have hc := sContainsFFrg d.frags 56 [.rptr d.enc] (fun f => decide (f.name ∈ reachL d f.sels)) (by omega) (by simp [AV.closedL, AV.closed, Dcm.closed]) (fun f hf => gLoops1 d f hf hd)
  refine AFn.plain rfl (by simp [AV.closed, AV.closedL, Dcm.closed]) (AFn.en [2] Tryz.func26 ?_)
  refine .gob ?_
  exact Fin.r0
end Go.Proofs.YtmfmdehfbpkgdaaGreatDoor
namespace Go.Av
open Go
theorem Turn.weakVs [Globals] {σ : St} {k : Nat} {xs ys : List AV} {z0 : AV} {T' : List Tok} (hT : σ.T[k]? = some (.vec xs)) (h : WeakL xs ys) (hl : ys.length = xs.length) (hT' : setTK k (.vec ys) σ.T some = some T') : Turn σ z0 ⟨σ.B, T'⟩ z0 := fun g w v hI hr => by
  obtain ⟨kl, hTe⟩ := setTK_spec _ _ _ _ _ hT'
  have hT'e : T' = σ.T.set k (.vec ys) := (Option.some.inj hTe).symm
  subst hT'e
  have key : ∀ (j : Nat) (t : Tok) (r : Rec), g.tk[j]? = some r → (σ.T.set k (.vec ys))[j]? = some t → TokOk g w r t := fun j t r hj ht => by
    by_cases e : j = k
    · subst e
      rw [List.getElem?_set_self kl] at ht
      cases ht
      obtain ⟨q1, q2, q3, Vs, q4, q5, q6, q7⟩ := hI.tok j _ r hj hT
      exact ⟨by rw [hl]; exact q1, q2, q3, Vs, h g w Vs q4, q5, q6, q7⟩
    · rw [List.getElem?_set_ne (Ne.symm e)] at ht
      exact hI.tok j t r hj ht
  exact ⟨g, Ext.refl g w, ⟨hI.lenB, (by show g.tk.length = (σ.T.set k (.vec ys)).length; rw [List.length_set]; exact hI.lenT), hI.ob, hI.nodup, hI.noim, key, hI.tkz, hI.tkd, hI.imlt, hI.gl⟩, hr⟩
end Go.Av
namespace Go.Proofs.YtmfmdehfbpkgdaaGreatDoor
open Go Go.Av
attribute [local irreducible] HCode AOps PFn AFn Av.Step TStep
theorem eRoot (B : List Ob) (T : List Tok) : AFn Tryz.prog 32 [] ⟨B, T⟩ (fun e σ' => e = .ret (.vptr T.length 10 1 0 0) ∧ σ' = ⟨B, T ++ [.vec [knG 2 false]]⟩) := by
  refine AFn.en [0] Tryz.func32 ?_
  repeat' first | refine A.boxv (z := 10) rfl rfl (smallLen_eq _) (snocK_eq _ _ _) ?_ | refine .s1 ?_ | (refine .q ?_ ?_ <;> intro hc) | fail
  exact ⟨rfl, rfl⟩
theorem fRoot (s : Sch) (o : Opr) : PFn Tryz.prog 33 [s.enc, o.enc] (.str (rootT s o)) := by
  refine AFn.plain rfl (by simp [AV.closedL, AV.closed, Sch.closed, Opr.closed]) (AFn.en [4] Tryz.func33 ?_)
  unfold rootT
  by_cases c : o.kind = 1
  · have n : (o.kind == 1) = true := by rw [c]; rfl
    rw [if_pos c]
    refine .gob ?_
    exact Fin.r0
  · have n : (o.kind == 1) = false := by simpa using c
    rw [if_neg c]
    refine .gob ?_
    exact Fin.r0
def rdJ (j : Nat) : List (List Need) → List AV
  | [] => []
  | [r] => [.slice (r.map Need.enc) (.own j 2)]
  | r :: q :: l => .slice (r.map Need.enc) .no :: rdJ j (q :: l)
def rdNo (R : List (List Need)) : List AV := R.map fun r => .slice (r.map Need.enc) .no
theorem rdJ_enc : ∀ R, rdJ 2 R = rdEnc R
  | [] => rfl
  | [r] => rfl
  | r :: q :: l => by rw [rdJ, rdEnc, rdJ_enc (q :: l)]
theorem rdJ_weak (j : Nat) : ∀ R, WeakL (rdJ j R) (rdNo R)
  | [] => WeakL.refl _
  | [r] => WeakL.cons (Weak.no (WeakL.refl _)) (WeakL.refl _)
  | r :: q :: l => WeakL.cons (Weak.refl _) (rdJ_weak j (q :: l))
theorem rdJ_len (j : Nat) : ∀ R, (rdJ j R).length = R.length
  | [] => rfl
  | [r] => rfl
  | r :: q :: l => by rw [rdJ, List.length_cons, rdJ_len j (q :: l)]; rfl
end Go.Proofs.YtmfmdehfbpkgdaaGreatDoor
namespace Go.Av
open Go
theorem Turn.elemS [Globals] {σ : St} {k i : Nat} {xs ys : List AV} {t0 t0' : Tk} {z0 : AV} {T1 T' : List Tok} (hT : σ.T[k]? = some (.vec xs)) (hi : xs[i]? = some (.slice ys t0)) (h : Turn σ (.slice ys t0) ⟨σ.B, T1⟩ (.slice ys t0')) (hT1 : T1[k]? = some (.vec xs)) (hT' : setTK k (.vec (xs.set i (.slice ys t0'))) T1 some = some T') :
    Turn σ z0 ⟨σ.B, T'⟩ z0 := fun g w v hI hr => by
  obtain ⟨kl, hTe⟩ := setTK_spec _ _ _ _ _ hT'
  have hkg : k < g.tk.length := by rw [hI.lenT]; exact (List.getElem?_eq_some_iff.1 hT).1
  have hr0 : g.tk[k]? = some g.tk[k] := List.getElem?_eq_getElem hkg
  obtain ⟨t1, t2, t3, Vs, t4, t5, t6, t7⟩ := hI.tok k _ _ hr0 hT
  obtain ⟨V, hV, hru⟩ := t4.get hi
  obtain ⟨g1, e1, i1, r1⟩ := h g w V hI hru
  refine ⟨g1, e1, ?_, Rep.mono e1.le _ _ hr⟩
  rw [← Option.some.inj hTe]
  refine ⟨i1.lenB, by simpa using i1.lenT, i1.ob, i1.nodup, i1.noim, fun j t r hj ht => ?_, i1.tkz, i1.tkd, i1.imlt, i1.gl⟩
  by_cases e : j = k
  · subst e
    simp only [List.getElem?_set_self kl, Option.some.injEq] at ht
    subst ht
    obtain ⟨s1, s2, s3, Ws, s4, s5, s6, s7⟩ := i1.tok j _ r hj hT1
    have hsame : ∀ (p : Addr), r.base = some p → Ws[i]? = some V := by
      intro p hp
      obtain ⟨r', hr', hh⟩ := e1.le.tk j _ hr0
      rw [hj] at hr'
      cases hr'
      have hrr : r = g.tk[j] := by
        rcases hh with h | h
        · exact h
        · have h1 := h.1
          have hl := t1
          have hs := s1
          omega
      subst hrr
      have hil : i < Ws.length := by rw [s4.length]; exact (List.getElem?_eq_some_iff.1 hi).1
      obtain ⟨m1, m2⟩ := (t7 p hp).2 i _ hV
      obtain ⟨n1, n2⟩ := (s7 p hp).2 i _ (List.getElem?_eq_getElem hil)
      obtain ⟨W, hW, hRW⟩ := s4.get hi
      rw [List.getElem?_eq_getElem hil] at hW
      cases hW
      obtain ⟨a, cap, sz, us, hws, _⟩ := hRW
      obtain ⟨a', cap', sz', us', hvs, _⟩ := hru
      rw [List.getElem?_eq_getElem hil]
      have a1 := (m2 0 V (by rw [hvs]; rfl)).2.1
      have a2 := (n2 0 Ws[i] (by rw [hws]; rfl)).2.1
      rw [a1] at a2
      exact a2.symm
    cases hb : r.base with
    | none =>
      have := s5 hb
      subst this
      have h0 := s4.length
      have : i < xs.length := (List.getElem?_eq_some_iff.1 hi).1
      simp at h0
      omega
    | some p =>
      have hWi := hsame p hb
      refine ⟨by simpa using s1, s2, s3, Ws, ?_, (fun h => by rw [hb] at h; cases h), s6, fun q hq => ?_⟩
      · have := s4.set i r1
        rwa [set_same hWi] at this
      · rw [hb] at hq
        cases hq
        exact s7 p hb
  · rw [List.getElem?_set_ne (Ne.symm e)] at ht
    exact i1.tok j t r hj ht
end Go.Av
