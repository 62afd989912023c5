/-
  The reference: Code, whole.
  The program's types, parameters, fields, definitions, schemas, as abstract values; how they are read.
  What the packages wrap, defs, literal compute, in plain words; plain laws of it.
-/
import Derived.Test.YtijlmchfepjjkaaDoorGTableSays7
import Derived.Test.YtijlmchfepjjkaaDoorGTableSays1
import Derived.Test.YtijlmchfepjjkaaDoorGTableSays6
import Derived.Test.YtijlmchfepjjkaaDoorGTableSays3
namespace Go.Proofs.YtijlmchfepjjkaaDoor
open Go Go.Av
set_option maxRecDepth 100000
set_option maxHeartbeats 16000000
set_option linter.unusedVariables false
set_option linter.unusedSimpArgs false
attribute [local irreducible] HCode AOps PFn AFn Av.Step TStep

theorem code_is {s : Str} {i : Nat} (hi : i < s.length) : codeL (s.drop i) = codeP (s.length - i) s[i].toNat (byteAt s i 1) (byteAt s i 2) (byteAt s i 3) := by
  have g0 : byteAt s i 0 = s[i].toNat := byteAt_of (k := 0) hi
  rw [codeL_eq, ← g0]; rfl
theorem code_2 {s : Str} {i : Nat} (hi : i < s.length) (h : 194 ≤ s[i].toNat ∧ s[i].toNat < 224) : codeL (s.drop i) = restC s i 2 128 (s[i].toNat % 32) := by
  rw [code_is hi, codeP, if_neg (by omega), if_pos h]
  unfold restC
  simp only [contAll, contB, cAcc, Nat.reduceSub, Bool.and_true, Bool.and_eq_true, decide_eq_true_eq]
  by_cases a : 2 ≤ s.length - i
  · rw [if_pos a]
    by_cases b : 128 ≤ byteAt s i 1 ∧ byteAt s i 1 ≤ 191
    · rw [if_pos ⟨a, b⟩, if_pos b]
    · rw [if_neg (fun h => b h.2), if_neg b]
  · rw [if_neg (fun h => a h.1), if_neg a]
theorem code_3 {s : Str} {i : Nat} (hi : i < s.length) (h : 224 ≤ s[i].toNat ∧ s[i].toNat < 240) : codeL (s.drop i) = restC s i 3 2048 (s[i].toNat % 16) := by
  rw [code_is hi, codeP, if_neg (by omega), if_neg (by omega), if_pos h]
  unfold restC
  simp only [contAll, contB, cAcc, Nat.reduceSub, Bool.and_true, Bool.and_eq_true, decide_eq_true_eq]
  by_cases a : 3 ≤ s.length - i
  · rw [if_pos a]
    by_cases b : (128 ≤ byteAt s i 1 ∧ byteAt s i 1 ≤ 191) ∧ (128 ≤ byteAt s i 2 ∧ byteAt s i 2 ≤ 191)
    · rw [if_pos ⟨a, b⟩, if_pos b]
    · rw [if_neg (fun h => b h.2), if_neg b]
  · rw [if_neg (fun h => a h.1), if_neg a]
theorem code_4 {s : Str} {i : Nat} (hi : i < s.length) (h : 240 ≤ s[i].toNat ∧ s[i].toNat < 245) : codeL (s.drop i) = restC s i 4 65536 (s[i].toNat % 8) := by
  rw [code_is hi, codeP, if_neg (by omega), if_neg (by omega), if_neg (by omega), if_pos h]
  unfold restC
  simp only [contAll, contB, cAcc, Nat.reduceSub, Bool.and_true, Bool.and_eq_true, decide_eq_true_eq]
  by_cases a : 4 ≤ s.length - i
  · rw [if_pos a]
    by_cases b : (128 ≤ byteAt s i 1 ∧ byteAt s i 1 ≤ 191) ∧ (128 ≤ byteAt s i 2 ∧ byteAt s i 2 ≤ 191) ∧ (128 ≤ byteAt s i 3 ∧ byteAt s i 3 ≤ 191)
    · rw [if_pos ⟨a, b⟩, if_pos b]
    · rw [if_neg (fun h => b h.2), if_neg b]
  · rw [if_neg (fun h => a h.1), if_neg a]
theorem code_1 {s : Str} {i : Nat} (hi : i < s.length) (h : s[i].toNat < 128) : codeL (s.drop i) = (s[i].toNat, 1) := by
  rw [code_is hi, codeP, if_pos h]
theorem code_0 {s : Str} {i : Nat} (hi : i < s.length) (h0 : ¬ s[i].toNat < 128) (h2 : ¬ (194 ≤ s[i].toNat ∧ s[i].toNat < 224)) (h3 : ¬ (224 ≤ s[i].toNat ∧ s[i].toNat < 240)) (h4 : ¬ (240 ≤ s[i].toNat ∧ s[i].toNat < 245)) : codeL (s.drop i) = (0, 0) := by
  rw [code_is hi, codeP, if_neg h0, if_neg h2, if_neg h3, if_neg h4]

attribute [local irreducible] Int.decLt Int.decLe Int.le Int.lt in
theorem rCode (s : Str) (i : Nat) (hi : i < s.length) (hs : s.length ≤ 4611686018427387904) :
    PFn Tryd.prog 135 [.str s, .int .i64 (i : Int)] (pairV (codeL (s.drop i))) := by
  have x0 := get_str hi
  have hb0 := UInt8.toNat_lt s[i]
  have hbN : s[i].toNat < 9223372036854775808 := by omega
  have e1 : decide ((i : Int) < 0) = false := decide_eq_false (by omega)
  have e2 : decide ((i : Int) ≥ (s.length : Int)) = false := decide_eq_false (by omega)
  by_cases c1 : s[i].toNat < 128
  · have d1 : decide ((s[i].toNat : Int) < 128) = true := decide_eq_true (by omega)
    rw [code_1 hi c1]
    refine AFn.plain rfl rfl (AFn.enter [4, 5] Tryd.func135 rfl rfl rfl rfl rfl (by decide) ?_)
    repeat' first
      | refine .seq ?_ | refine .rg ?_ | refine .rd ?_ | refine .block ?_ | refine .scope ?_ | refine .skip ?_ | refine .label ?_ | refine .exit ?_ | refine .ret ?_
      | refine .ct ?_ | refine .cf ?_ | refine .cy ?_ | refine .cn ?_ | (refine .cond rfl ?_ ?_ <;> intro hc)
      | refine A.nil_seq ?_ | refine .nl ?_ | refine .dd ?_ | refine .ys ?_ | refine .no ?_ | (refine A.guard rfl ?_ ?_ <;> intro hc)
      | refine .lb ?_ | refine .ln ?_ | refine .ls ?_ | refine .pv ?_ | refine .ix ?_ | refine .pt ?_ | refine .pf ?_ | refine .bx ?_ | refine .al ?_ | refine .st ?_ | refine .ad ?_ | refine .sb ?_ | refine .mf ?_ | refine .cl ?_ | refine .cw ?_ | refine .ck ?_
      | refine A.index_s rfl rfl rfl rfl rfl (by assumption) ?_ | refine A.conv rfl rfl rfl rfl (conv_u8 _) ?_ | fail
    exact Fin.two rfl rfl (Weak.refl _)
  · have d1 : decide ((s[i].toNat : Int) < 128) = false := decide_eq_false (by omega)
    by_cases c2 : 194 ≤ s[i].toNat ∧ s[i].toNat < 224
    · have f1 : decide ((s[i].toNat : Int) ≥ 194) = true := decide_eq_true (by omega)
      have f2 : decide ((s[i].toNat : Int) < 224) = true := decide_eq_true (by omega)
      have hrest := codeRest s i 2 128 (s[i].toNat % 32) hi hs ⟨by decide, by decide⟩ (by omega)
      rw [code_2 hi c2]
      refine AFn.plain rfl rfl (AFn.enter [4, 5] Tryd.func135 rfl rfl rfl rfl rfl (by decide) ?_)
      repeat' first
        | (refine HCode.weaken hrest ?_; exact ⟨rfl, rfl, rfl, rfl, rfl, trivial⟩)
        | refine .seq ?_ | refine .rg ?_ | refine .rd ?_ | refine .block ?_ | refine .scope ?_ | refine .skip ?_ | refine .label ?_ | refine .exit ?_ | refine .ret ?_
        | refine .ct ?_ | refine .cf ?_ | refine .cy ?_ | refine .cn ?_ | (refine .cond rfl ?_ ?_ <;> intro hc)
        | refine A.nil_seq ?_ | refine .nl ?_ | refine .dd ?_ | refine .ys ?_ | refine .no ?_ | (refine A.guard rfl ?_ ?_ <;> intro hc)
        | refine .lb ?_ | refine .ln ?_ | refine .ls ?_ | refine .pv ?_ | refine .ix ?_ | refine .pt ?_ | refine .pf ?_ | refine .bx ?_ | refine .al ?_ | refine .st ?_ | refine .ad ?_ | refine .sb ?_ | refine .mf ?_ | refine .cl ?_ | refine .cw ?_ | refine .ck ?_
        | refine A.index_s rfl rfl rfl rfl rfl (by assumption) ?_ | refine A.conv rfl rfl rfl rfl (conv_u8 _) ?_ | refine A.band (n := 31) rfl rfl rfl rfl hbN (by decide) (and31 _) ?_ | fail
    · by_cases c3 : 224 ≤ s[i].toNat ∧ s[i].toNat < 240
      · have f1 : decide ((s[i].toNat : Int) ≥ 194) = true := decide_eq_true (by omega)
        have f2 : decide ((s[i].toNat : Int) < 224) = false := decide_eq_false (by omega)
        have f3 : decide ((s[i].toNat : Int) ≥ 224) = true := decide_eq_true (by omega)
        have f4 : decide ((s[i].toNat : Int) < 240) = true := decide_eq_true (by omega)
        have hrest := codeRest s i 3 2048 (s[i].toNat % 16) hi hs ⟨by decide, by decide⟩ (by omega)
        rw [code_3 hi c3]
        refine AFn.plain rfl rfl (AFn.enter [4, 5] Tryd.func135 rfl rfl rfl rfl rfl (by decide) ?_)
        repeat' first
          | (refine HCode.weaken hrest ?_; exact ⟨rfl, rfl, rfl, rfl, rfl, trivial⟩)
          | refine .seq ?_ | refine .rg ?_ | refine .rd ?_ | refine .block ?_ | refine .scope ?_ | refine .skip ?_ | refine .label ?_ | refine .exit ?_ | refine .ret ?_
          | refine .ct ?_ | refine .cf ?_ | refine .cy ?_ | refine .cn ?_ | (refine .cond rfl ?_ ?_ <;> intro hc)
          | refine A.nil_seq ?_ | refine .nl ?_ | refine .dd ?_ | refine .ys ?_ | refine .no ?_ | (refine A.guard rfl ?_ ?_ <;> intro hc)
          | refine .lb ?_ | refine .ln ?_ | refine .ls ?_ | refine .pv ?_ | refine .ix ?_ | refine .pt ?_ | refine .pf ?_ | refine .bx ?_ | refine .al ?_ | refine .st ?_ | refine .ad ?_ | refine .sb ?_ | refine .mf ?_ | refine .cl ?_ | refine .cw ?_ | refine .ck ?_
          | refine A.index_s rfl rfl rfl rfl rfl (by assumption) ?_ | refine A.conv rfl rfl rfl rfl (conv_u8 _) ?_ | refine A.band (n := 15) rfl rfl rfl rfl hbN (by decide) (and15 _) ?_ | fail
      · by_cases c4 : 240 ≤ s[i].toNat ∧ s[i].toNat < 245
        · have f1 : decide ((s[i].toNat : Int) ≥ 194) = true := decide_eq_true (by omega)
          have f2 : decide ((s[i].toNat : Int) < 224) = false := decide_eq_false (by omega)
          have f3 : decide ((s[i].toNat : Int) ≥ 224) = true := decide_eq_true (by omega)
          have f4 : decide ((s[i].toNat : Int) < 240) = false := decide_eq_false (by omega)
          have f5 : decide ((s[i].toNat : Int) ≥ 240) = true := decide_eq_true (by omega)
          have f6 : decide ((s[i].toNat : Int) < 245) = true := decide_eq_true (by omega)
          have hrest := codeRest s i 4 65536 (s[i].toNat % 8) hi hs ⟨by decide, by decide⟩ (by omega)
          rw [code_4 hi c4]
          refine AFn.plain rfl rfl (AFn.enter [4, 5] Tryd.func135 rfl rfl rfl rfl rfl (by decide) ?_)
          repeat' first
            | (refine HCode.weaken hrest ?_; exact ⟨rfl, rfl, rfl, rfl, rfl, trivial⟩)
            | refine .seq ?_ | refine .rg ?_ | refine .rd ?_ | refine .block ?_ | refine .scope ?_ | refine .skip ?_ | refine .label ?_ | refine .exit ?_ | refine .ret ?_
            | refine .ct ?_ | refine .cf ?_ | refine .cy ?_ | refine .cn ?_ | (refine .cond rfl ?_ ?_ <;> intro hc)
            | refine A.nil_seq ?_ | refine .nl ?_ | refine .dd ?_ | refine .ys ?_ | refine .no ?_ | (refine A.guard rfl ?_ ?_ <;> intro hc)
            | refine .lb ?_ | refine .ln ?_ | refine .ls ?_ | refine .pv ?_ | refine .ix ?_ | refine .pt ?_ | refine .pf ?_ | refine .bx ?_ | refine .al ?_ | refine .st ?_ | refine .ad ?_ | refine .sb ?_ | refine .mf ?_ | refine .cl ?_ | refine .cw ?_ | refine .ck ?_
            | refine A.index_s rfl rfl rfl rfl rfl (by assumption) ?_ | refine A.conv rfl rfl rfl rfl (conv_u8 _) ?_ | refine A.band (n := 7) rfl rfl rfl rfl hbN (by decide) (Go.Av.and7 _) ?_ | fail
        · rw [code_0 hi c1 c2 c3 c4]
          refine AFn.plain rfl rfl (AFn.enter [4, 5] Tryd.func135 rfl rfl rfl rfl rfl (by decide) ?_)
          by_cases c5 : s[i].toNat < 194
          · have f1 : decide ((s[i].toNat : Int) ≥ 194) = false := decide_eq_false (by omega)
            have f3 : decide ((s[i].toNat : Int) ≥ 224) = false := decide_eq_false (by omega)
            have f5 : decide ((s[i].toNat : Int) ≥ 240) = false := decide_eq_false (by omega)
            repeat' first
              | refine .seq ?_ | refine .rg ?_ | refine .rd ?_ | refine .block ?_ | refine .scope ?_ | refine .skip ?_ | refine .label ?_ | refine .exit ?_ | refine .ret ?_
              | refine .ct ?_ | refine .cf ?_ | refine .cy ?_ | refine .cn ?_ | (refine .cond rfl ?_ ?_ <;> intro hc)
              | refine A.nil_seq ?_ | refine .nl ?_ | refine .dd ?_ | refine .ys ?_ | refine .no ?_ | (refine A.guard rfl ?_ ?_ <;> intro hc)
              | refine .lb ?_ | refine .ln ?_ | refine .ls ?_ | refine .pv ?_ | refine .ix ?_ | refine .pt ?_ | refine .pf ?_ | refine .bx ?_ | refine .al ?_ | refine .st ?_ | refine .ad ?_ | refine .sb ?_ | refine .mf ?_ | refine .cl ?_ | refine .cw ?_ | refine .ck ?_
              | refine A.index_s rfl rfl rfl rfl rfl (by assumption) ?_ | refine A.conv rfl rfl rfl rfl (conv_u8 _) ?_ | fail
            exact Fin.two rfl rfl (Weak.refl _)
          · have f1 : decide ((s[i].toNat : Int) ≥ 194) = true := decide_eq_true (by omega)
            have f2 : decide ((s[i].toNat : Int) < 224) = false := decide_eq_false (by omega)
            have f3 : decide ((s[i].toNat : Int) ≥ 224) = true := decide_eq_true (by omega)
            have f4 : decide ((s[i].toNat : Int) < 240) = false := decide_eq_false (by omega)
            have f5 : decide ((s[i].toNat : Int) ≥ 240) = true := decide_eq_true (by omega)
            have f6 : decide ((s[i].toNat : Int) < 245) = false := decide_eq_false (by omega)
            repeat' first
              | refine .seq ?_ | refine .rg ?_ | refine .rd ?_ | refine .block ?_ | refine .scope ?_ | refine .skip ?_ | refine .label ?_ | refine .exit ?_ | refine .ret ?_
              | refine .ct ?_ | refine .cf ?_ | refine .cy ?_ | refine .cn ?_ | (refine .cond rfl ?_ ?_ <;> intro hc)
              | refine A.nil_seq ?_ | refine .nl ?_ | refine .dd ?_ | refine .ys ?_ | refine .no ?_ | (refine A.guard rfl ?_ ?_ <;> intro hc)
              | refine .lb ?_ | refine .ln ?_ | refine .ls ?_ | refine .pv ?_ | refine .ix ?_ | refine .pt ?_ | refine .pf ?_ | refine .bx ?_ | refine .al ?_ | refine .st ?_ | refine .ad ?_ | refine .sb ?_ | refine .mf ?_ | refine .cl ?_ | refine .cw ?_ | refine .ck ?_
              | refine A.index_s rfl rfl rfl rfl rfl (by assumption) ?_ | refine A.conv rfl rfl rfl rfl (conv_u8 _) ?_ | fail
            exact Fin.two rfl rfl (Weak.refl _)
end Go.Proofs.YtijlmchfepjjkaaDoor
namespace Go.Proofs.YtijlmchfepjjkaaDoor
open Go Go.Av
set_option maxRecDepth 100000
set_option linter.unusedVariables false

/-- Lists of texts. -/
abbrev strsE (l : List Str) : AV := .slice (l.map AV.str) .no
structure Typ where
  name : Str
  lists : Int
  musts : Int
  deriving DecidableEq
def Typ.enc (t : Typ) : AV := .agg [.str t.name, .int .i64 t.lists, .int .i64 t.musts]
structure Dirc where
  name : Str
  args : List Mem
def Dirc.enc (d : Dirc) : AV := .agg [.str d.name, .slice (d.args.map Mem.enc) .no]
structure Par where
  name : Str
  t : Typ
  has : Bool
  d : Val
def Par.enc (p : Par) : AV := .agg [.str p.name, .str p.t.name, .int .i64 p.t.lists, .int .i64 p.t.musts, .bool p.has, .int .i64 p.d.kind, .int .i64 p.d.n, .str p.d.s, .slice p.d.lv .no, .slice p.d.mv .no]
structure Fld where
  name : Str
  params : List Par
  t : Typ
  dirs : List Dirc
def Fld.enc (f : Fld) : AV := .agg [.str f.name, .slice (f.params.map Par.enc) .no, .str f.t.name, .int .i64 f.t.lists, .int .i64 f.t.musts, .slice (f.dirs.map Dirc.enc) .no]
structure Dfn where
  kind : Int
  name : Str
  faces : List Str
  fields : List Fld
  parts : List Str
  params : List Par
def Dfn.enc (d : Dfn) : AV := .agg [.int .i64 d.kind, .str d.name, .slice (d.faces.map AV.str) .no, .slice (d.fields.map Fld.enc) .no, .slice (d.parts.map AV.str) .no, .slice (d.params.map Par.enc) .no]
structure Sch where
  defs : List Dfn
  query : Str
  mutation : Str
def Sch.enc (s : Sch) : AV := .agg [.slice (s.defs.map Dfn.enc) .no, .str s.query, .str s.mutation]
structure Spt where
  var : Str
  t : Typ
  has : Bool
  deriving DecidableEq
def Spt.enc (x : Spt) : AV := .agg [.str x.var, .str x.t.name, .int .i64 x.t.lists, .int .i64 x.t.musts, .bool x.has]

theorem str_closedL (l : List Str) : AV.closedL (l.map AV.str) = true := closedL_map (fun _ => rfl) l
theorem int_closedL (l : List Int) : AV.closedL (l.map (AV.int .i64)) = true := closedL_map (fun _ => rfl) l
@[simp] theorem lowL_int (n m : Nat) (l : List Int) : AV.lowL n m (List.map (AV.int .i64) l) = true := AV.lowL_of_closed n m _ (int_closedL l)
theorem Typ.closed (t : Typ) : t.enc.closed = true := rfl
theorem Dirc.closed (d : Dirc) : d.enc.closed = true := by simp [Dirc.enc, AV.closed, AV.closedL, Mem.closedL]
theorem Dirc.closedL (l : List Dirc) : AV.closedL (l.map Dirc.enc) = true := closedL_map Dirc.closed l
theorem Par.closed (p : Par) : p.enc.closed = true := by simp [Par.enc, AV.closed, AV.closedL, Val.lv_closed, Val.mv_closed]
theorem Par.closedL (l : List Par) : AV.closedL (l.map Par.enc) = true := closedL_map Par.closed l
theorem Fld.closed (f : Fld) : f.enc.closed = true := by simp [Fld.enc, AV.closed, AV.closedL, Par.closedL, Dirc.closedL]
theorem Fld.closedL (l : List Fld) : AV.closedL (l.map Fld.enc) = true := closedL_map Fld.closed l
theorem Dfn.closed (d : Dfn) : d.enc.closed = true := by simp [Dfn.enc, AV.closed, AV.closedL, Par.closedL, Fld.closedL, str_closedL]
theorem Dfn.closedL (l : List Dfn) : AV.closedL (l.map Dfn.enc) = true := closedL_map Dfn.closed l
theorem Sch.closed (s : Sch) : s.enc.closed = true := by simp [Sch.enc, AV.closed, AV.closedL, Dfn.closedL]
theorem Spt.closed (x : Spt) : x.enc.closed = true := rfl
theorem Spt.closedL (l : List Spt) : AV.closedL (l.map Spt.enc) = true := closedL_map Spt.closed l
@[simp] theorem lowL_str (n m : Nat) (l : List _) : AV.lowL n m (List.map AV.str l) = true := AV.lowL_of_closed n m _ (str_closedL l)
@[simp] theorem lowL_Dirc (n m : Nat) (l : List _) : AV.lowL n m (List.map Dirc.enc l) = true := AV.lowL_of_closed n m _ (Dirc.closedL l)
@[simp] theorem lowL_Par (n m : Nat) (l : List _) : AV.lowL n m (List.map Par.enc l) = true := AV.lowL_of_closed n m _ (Par.closedL l)
@[simp] theorem lowL_Fld (n m : Nat) (l : List _) : AV.lowL n m (List.map Fld.enc l) = true := AV.lowL_of_closed n m _ (Fld.closedL l)
@[simp] theorem lowL_Dfn (n m : Nat) (l : List _) : AV.lowL n m (List.map Dfn.enc l) = true := AV.lowL_of_closed n m _ (Dfn.closedL l)
@[simp] theorem lowL_Spt (n m : Nat) (l : List _) : AV.lowL n m (List.map Spt.enc l) = true := AV.lowL_of_closed n m _ (Spt.closedL l)
@[simp] theorem lowL_mem (n m : Nat) (l : List _) : AV.lowL n m (List.map Mem.enc l) = true := AV.lowL_of_closed n m _ (Mem.closedL l)
@[simp] theorem lowL_val (n m : Nat) (l : List Val) : AV.lowL n m (List.map Val.enc l) = true := AV.lowL_of_closed n m _ (Val.closedL' l)
@[simp] theorem lowL_lv (n m : Nat) (v : Val) : AV.lowL n m v.lv = true := AV.lowL_of_closed n m _ v.lv_closed
@[simp] theorem lowL_mv (n m : Nat) (v : Val) : AV.lowL n m v.mv = true := AV.lowL_of_closed n m _ v.mv_closed
@[simp] theorem low_Typ (n m : Nat) (x : Typ) : (Typ.enc x).low n m = true := AV.low_of_closed n m _ (Typ.closed x)
@[simp] theorem low_Dirc (n m : Nat) (x : Dirc) : (Dirc.enc x).low n m = true := AV.low_of_closed n m _ (Dirc.closed x)
@[simp] theorem low_Par (n m : Nat) (x : Par) : (Par.enc x).low n m = true := AV.low_of_closed n m _ (Par.closed x)
@[simp] theorem low_Fld (n m : Nat) (x : Fld) : (Fld.enc x).low n m = true := AV.low_of_closed n m _ (Fld.closed x)
@[simp] theorem low_Dfn (n m : Nat) (x : Dfn) : (Dfn.enc x).low n m = true := AV.low_of_closed n m _ (Dfn.closed x)
@[simp] theorem low_Sch (n m : Nat) (x : Sch) : (Sch.enc x).low n m = true := AV.low_of_closed n m _ (Sch.closed x)
@[simp] theorem low_Spt (n m : Nat) (x : Spt) : (Spt.enc x).low n m = true := AV.low_of_closed n m _ (Spt.closed x)
@[simp] theorem low_Val (n m : Nat) (x : Val) : (Val.enc x).low n m = true := AV.low_of_closed n m _ (Val.closed x)
@[simp] theorem low_Mem (n m : Nat) (x : Mem) : (Mem.enc x).low n m = true := AV.low_of_closed n m _ (Mem.closed x)

theorem Typ.fits (t : Typ) : Av.fits true 3 t.enc = true := rfl
theorem Dirc.fits (d : Dirc) : Av.fits true 2 d.enc = true := rfl
theorem Dirc.fitsAll (l : List Dirc) : Av.fitsAll true 2 (l.map Dirc.enc) = true := fitsAll_map Dirc.fits l
theorem Par.fits (d : Par) : Av.fits true 10 d.enc = true := rfl
theorem Par.fitsAll (l : List Par) : Av.fitsAll true 10 (l.map Par.enc) = true := fitsAll_map Par.fits l
theorem Fld.fits (d : Fld) : Av.fits true 6 d.enc = true := rfl
theorem Fld.fitsAll (l : List Fld) : Av.fitsAll true 6 (l.map Fld.enc) = true := fitsAll_map Fld.fits l
theorem Dfn.fits (d : Dfn) : Av.fits true 6 d.enc = true := rfl
theorem Dfn.fitsAll (l : List Dfn) : Av.fitsAll true 6 (l.map Dfn.enc) = true := fitsAll_map Dfn.fits l
theorem Spt.fits (d : Spt) : Av.fits true 5 d.enc = true := rfl
theorem Spt.fitsAll (l : List Spt) : Av.fitsAll true 5 (l.map Spt.enc) = true := fitsAll_map Spt.fits l
theorem str_fitsAll (l : List Str) : Av.fitsAll false 1 (l.map AV.str) = true := fitsAll_map (fun _ => rfl) l

def Typ.size (t : Typ) : Nat := t.name.length + 4
def Dirc.size (d : Dirc) : Nat := d.name.length + sumSize Mem.size d.args + 3
def Par.size (p : Par) : Nat := p.name.length + p.t.size + p.d.size + 3
def Fld.size (f : Fld) : Nat := f.name.length + sumSize Par.size f.params + f.t.size + sumSize Dirc.size f.dirs + 4
def strsSize (l : List Str) : Nat := sumSize (fun s : Str => s.length + 1) l + 1
def Dfn.size (d : Dfn) : Nat := d.name.length + strsSize d.faces + sumSize Fld.size d.fields + strsSize d.parts + sumSize Par.size d.params + 5
def Sch.size (s : Sch) : Nat := sumSize Dfn.size s.defs + s.query.length + s.mutation.length + 4
def Dirc.ok (d : Dirc) : Prop := ∀ m ∈ d.args, m.ok
def Par.ok (p : Par) : Prop := p.d.ok
def Fld.ok (f : Fld) : Prop := (∀ p ∈ f.params, p.ok) ∧ ∀ d ∈ f.dirs, d.ok
def Dfn.ok (d : Dfn) : Prop := (∀ f ∈ d.fields, f.ok) ∧ ∀ p ∈ d.params, p.ok
def Sch.ok (s : Sch) : Prop := ∀ d ∈ s.defs, d.ok

theorem reads_bool' (n : Nat) : ReadN Tryd.prog n 4 false (fun x : Bool => .bool x) (fun _ => 1) (fun _ => True) := ReadN.bool Tryd.underlying4
theorem reads_strs : ∀ n : Nat, ReadN Tryd.prog n 70 false (fun l : List Str => .slice (l.map AV.str) .no) (fun l => sumSize (fun x : Str => x.length + 1) l + 1) (fun l => ∀ x ∈ l, True)
  | 0 => ReadN.zero
  | n + 1 => ReadN.slice Tryd.underlying70 (c := 1) (by kernel_rfl) (by decide) (reads_str n)
theorem reads_typ : ∀ n : Nat, ReadN Tryd.prog n 60 true Typ.enc Typ.size (fun _ => True)
  | 0 => ReadN.zero
  | n + 1 => (ReadN.struct Tryd.underlying60 (by kernel_rfl)
      (ReadF.cons (c := 1) rfl (by kernel_rfl) (one_cell fun _ => rfl) (reads_str n)
        (ReadF.cons (c := 1) rfl (by kernel_rfl) (one_cell fun _ => rfl) (reads_int n)
          (ReadF.cons (c := 1) rfl (by kernel_rfl) (one_cell fun _ => rfl) (reads_int n) ReadF.nil)))).map
      (fun x => (⟨x.1, x.2.1, x.2.2.1⟩ : Typ)) (fun _ => rfl) (fun x => by simp only [Typ.size]; omega) (fun x h => trivial)
theorem reads_dir : ∀ n : Nat, ReadN Tryd.prog n 143 true Dirc.enc Dirc.size Dirc.ok
  | 0 => ReadN.zero
  | n + 1 => (ReadN.struct Tryd.underlying143 (by kernel_rfl)
      (ReadF.cons (c := 1) rfl (by kernel_rfl) (one_cell fun _ => rfl) (reads_str n)
        (ReadF.cons (c := 1) rfl (by kernel_rfl) (one_cell fun _ => rfl) (reads_mems n) ReadF.nil))).map
      (fun x => (⟨x.1, x.2.1⟩ : Dirc)) (fun _ => rfl) (fun x => by simp only [Dirc.size]; omega) (fun x h => h.2.1)
theorem reads_dirs : ∀ n : Nat, ReadN Tryd.prog n 101 false (fun l => .slice (l.map Dirc.enc) .no) (fun l => sumSize Dirc.size l + 1) (fun l => ∀ x ∈ l, x.ok)
  | 0 => ReadN.zero
  | n + 1 => ReadN.slice Tryd.underlying101 (c := 2) (by kernel_rfl) (by decide) (reads_dir n)
theorem reads_par : ∀ n : Nat, ReadN Tryd.prog n 86 true Par.enc Par.size Par.ok
  | 0 => ReadN.zero
  | n + 1 => (ReadN.struct Tryd.underlying86 (by kernel_rfl)
      (ReadF.cons (c := 1) rfl (by kernel_rfl) (one_cell fun _ => rfl) (reads_str n)
        (ReadF.cons (c := 3) rfl (by kernel_rfl) (flat_cells fun _ => ⟨_, rfl⟩) (reads_typ n)
          (ReadF.cons (c := 1) rfl (by kernel_rfl) (one_cell fun _ => rfl) (reads_bool' n)
            (ReadF.cons (c := 5) rfl (by kernel_rfl) (flat_cells fun _ => ⟨_, rfl⟩) (reads_val n) ReadF.nil))))).map
      (fun x => (⟨x.1, x.2.1, x.2.2.1, x.2.2.2.1⟩ : Par)) (fun _ => rfl) (fun x => by simp only [Par.size]; omega) (fun x h => h.2.2.2.1)
theorem reads_pars : ∀ n : Nat, ReadN Tryd.prog n 76 false (fun l => .slice (l.map Par.enc) .no) (fun l => sumSize Par.size l + 1) (fun l => ∀ x ∈ l, x.ok)
  | 0 => ReadN.zero
  | n + 1 => ReadN.slice Tryd.underlying76 (c := 10) (by kernel_rfl) (by decide) (reads_par n)
theorem reads_fld : ∀ n : Nat, ReadN Tryd.prog n 103 true Fld.enc Fld.size Fld.ok
  | 0 => ReadN.zero
  | n + 1 => (ReadN.struct Tryd.underlying103 (by kernel_rfl)
      (ReadF.cons (c := 1) rfl (by kernel_rfl) (one_cell fun _ => rfl) (reads_str n)
        (ReadF.cons (c := 1) rfl (by kernel_rfl) (one_cell fun _ => rfl) (reads_pars n)
          (ReadF.cons (c := 3) rfl (by kernel_rfl) (flat_cells fun _ => ⟨_, rfl⟩) (reads_typ n)
            (ReadF.cons (c := 1) rfl (by kernel_rfl) (one_cell fun _ => rfl) (reads_dirs n) ReadF.nil))))).map
      (fun x => (⟨x.1, x.2.1, x.2.2.1, x.2.2.2.1⟩ : Fld)) (fun _ => rfl) (fun x => by simp only [Fld.size]; omega) (fun x h => ⟨h.2.1, h.2.2.2.1⟩)
theorem reads_flds : ∀ n : Nat, ReadN Tryd.prog n 78 false (fun l => .slice (l.map Fld.enc) .no) (fun l => sumSize Fld.size l + 1) (fun l => ∀ x ∈ l, x.ok)
  | 0 => ReadN.zero
  | n + 1 => ReadN.slice Tryd.underlying78 (c := 6) (by kernel_rfl) (by decide) (reads_fld n)
theorem reads_dfn : ∀ n : Nat, ReadN Tryd.prog n 80 true Dfn.enc Dfn.size Dfn.ok
  | 0 => ReadN.zero
  | n + 1 => (ReadN.struct Tryd.underlying80 (by kernel_rfl)
      (ReadF.cons (c := 1) rfl (by kernel_rfl) (one_cell fun _ => rfl) (reads_int n)
        (ReadF.cons (c := 1) rfl (by kernel_rfl) (one_cell fun _ => rfl) (reads_str n)
          (ReadF.cons (c := 1) rfl (by kernel_rfl) (one_cell fun _ => rfl) (reads_strs n)
            (ReadF.cons (c := 1) rfl (by kernel_rfl) (one_cell fun _ => rfl) (reads_flds n)
              (ReadF.cons (c := 1) rfl (by kernel_rfl) (one_cell fun _ => rfl) (reads_strs n)
                (ReadF.cons (c := 1) rfl (by kernel_rfl) (one_cell fun _ => rfl) (reads_pars n) ReadF.nil))))))).map
      (fun x => (⟨x.1, x.2.1, x.2.2.1, x.2.2.2.1, x.2.2.2.2.1, x.2.2.2.2.2.1⟩ : Dfn)) (fun _ => rfl) (fun x => by simp only [Dfn.size, strsSize]; omega) (fun x h => ⟨h.2.2.2.1, h.2.2.2.2.2.1⟩)
theorem reads_dfns : ∀ n : Nat, ReadN Tryd.prog n 22 false (fun l => .slice (l.map Dfn.enc) .no) (fun l => sumSize Dfn.size l + 1) (fun l => ∀ x ∈ l, x.ok)
  | 0 => ReadN.zero
  | n + 1 => ReadN.slice Tryd.underlying22 (c := 6) (by kernel_rfl) (by decide) (reads_dfn n)
theorem reads_sch : ∀ n : Nat, ReadN Tryd.prog n 24 true Sch.enc Sch.size Sch.ok
  | 0 => ReadN.zero
  | n + 1 => (ReadN.struct Tryd.underlying24 (by kernel_rfl)
      (ReadF.cons (c := 1) rfl (by kernel_rfl) (one_cell fun _ => rfl) (reads_dfns n)
        (ReadF.cons (c := 1) rfl (by kernel_rfl) (one_cell fun _ => rfl) (reads_str n)
          (ReadF.cons (c := 1) rfl (by kernel_rfl) (one_cell fun _ => rfl) (reads_str n) ReadF.nil)))).map
      (fun x => (⟨x.1, x.2.1, x.2.2.1⟩ : Sch)) (fun _ => rfl) (fun x => by simp only [Sch.size]; omega) (fun x h => h.1)
end Go.Proofs.YtijlmchfepjjkaaDoor
namespace Go.Proofs.YtijlmchfepjjkaaDoor
open Go Go.Av
set_option maxRecDepth 100000
set_option linter.unusedVariables false
set_option linter.unusedSimpArgs false

/-- May a type be? -/
def rightT (t : Typ) : Bool := nameB t.name && (decide (0 ≤ t.lists) && (decide (t.lists ≤ 4) && (decide (0 ≤ t.musts) && decide (t.musts < 2 ^ (t.lists.toNat + 1)))))
/-- Must it be there? -/
def isT (t : Typ) : Bool := rightT t && decide (t.musts % 2 = 1)
def itemT (t : Typ) : Typ := ⟨t.name, t.lists - 1, t.musts / 2⟩
def zeroT : Typ := ⟨[], 0, 0⟩
def itemR (t : Typ) : Typ × Bool := if rightT t = true ∧ t.lists ≠ 0 then (itemT t, true) else (zeroT, false)
def listT (t : Typ) : Typ := ⟨t.name, t.lists + 1, t.musts * 2⟩
def mustT (t : Typ) : Typ := if rightT t = true then ⟨t.name, t.lists, if t.musts % 2 = 1 then t.musts else t.musts + 1⟩ else t
def bareT (t : Typ) : Typ := if rightT t = true then ⟨t.name, t.lists, if t.musts % 2 = 1 then t.musts - 1 else t.musts⟩ else t
theorem rightT_iff {t : Typ} : rightT t = true ↔ nameB t.name = true ∧ 0 ≤ t.lists ∧ t.lists ≤ 4 ∧ 0 ≤ t.musts ∧ t.musts < 2 ^ (t.lists.toNat + 1) := by
  simp [rightT, Bool.and_eq_true, and_assoc]
theorem rightT_item {t : Typ} (h : rightT t = true) (hl : t.lists ≠ 0) : rightT (itemT t) = true := by
  rw [rightT_iff] at *
  obtain ⟨h1, h2, h3, h4, h5⟩ := h
  have e : t.lists.toNat = (t.lists - 1).toNat + 1 := by omega
  refine ⟨h1, ?_, ?_, ?_, ?_⟩
  · show 0 ≤ t.lists - 1; omega
  · show t.lists - 1 ≤ 4; omega
  · show 0 ≤ t.musts / 2; omega
  · show t.musts / 2 < 2 ^ ((t.lists - 1).toNat + 1)
    rw [e, Int.pow_succ] at h5
    omega

/-- The four names that are always there. -/
def sInt : Str := [73, 110, 116]
def sString : Str := [83, 116, 114, 105, 110, 103]
def sBoolean : Str := [66, 111, 111, 108, 101, 97, 110]
def sID : Str := [73, 68]
def scalarB (n : Str) : Bool := n == sInt || n == sString || n == sBoolean || n == sID
def zeroD : Dfn := ⟨0, [], [], [], [], []⟩
def findO (s : Sch) (name : Str) : Option Dfn := if scalarB name = true then some ⟨0, name, [], [], [], []⟩ else s.defs.find? (fun d => d.name == name)
def findR (s : Sch) (name : Str) : Dfn × Bool := match findO s name with
  | some d => (d, true)
  | none => (zeroD, false)
/-- Is there a definition, of one of these kinds? -/
def kindB (s : Sch) (name : Str) (ks : List Int) : Bool := (findR s name).2 && decide ((findR s name).1.kind ∈ ks)
def leafB (s : Sch) (name : Str) : Bool := kindB s name [0, 4]
def compB (s : Sch) (name : Str) : Bool := kindB s name [1, 2, 3]
def entryB (s : Sch) (name : Str) : Bool := kindB s name [0, 4, 5]
abbrev zeroVal : Val := val0
def zeroP : Par := ⟨[], zeroT, false, zeroVal⟩
def parO (l : List Par) (name : Str) : Option Par := l.find? (fun p => p.name == name)
def parR (l : List Par) (name : Str) : Par × Bool := match parO l name with
  | some p => (p, true)
  | none => (zeroP, false)
def reqB (p : Par) : Bool := isT p.t && !p.has
/-- Are all there that must be? -/
def needsB (m : List Mem) : List Par → Bool
  | [] => true
  | p :: l => ((m.any fun x => x.name == p.name) || !reqB p) && needsB m l
def scalFit (name : Str) (k n : Int) : Bool :=
  if name = sInt then k == 2 && (decide (-2147483648 ≤ n) && decide (n ≤ 2147483647)) else if name = sString then k == 4 else if name = sBoolean then k == 1 else if name = sID then k == 4 || k == 2 else false
def bareB (s : Sch) (name : Str) (k n : Int) (str : Str) (inp : List Par → Bool) : Bool :=
  match findO s name with
  | none => false
  | some d => if d.kind = 4 then k == 5 && decide (str ∈ d.parts) else if d.kind = 5 then k == 7 && inp d.params else if d.kind = 0 then scalFit name k n else false
mutual
/-- May a good value stand where a type is asked for? w: it is an item of a list that is written. -/
def fitsV (s : Sch) : Val → Typ → Bool → Bool
  | .mk k n str l m, t, w =>
    if k = 8 then rightT t else if k = 0 then rightT t && !isT t else rightT t &&
      (if t.lists = 0 then bareB s t.name k n str (fun ps => fitsM s ps m [] && needsB m ps) else if k = 6 then fitsL s l (itemT t) else !w && bareB s t.name k n str (fun ps => fitsM s ps m [] && needsB m ps))
def fitsL (s : Sch) : List Val → Typ → Bool
  | [], _ => true
  | v :: l, t => fitsV s v t true && fitsL s l t
def fitsM (s : Sch) (ps : List Par) : List Mem → List Str → Bool
  | [], _ => true
  | .mk nm v :: m, seen => (match parO ps nm with | none => false | some p => fitsV s v p.t false) && (!decide (nm ∈ seen) && fitsM s ps m (seen ++ [nm]))
end
def inputB (s : Sch) (ps : List Par) (v : Val) : Bool := v.kind == 7 && (fitsM s ps v.m [] && needsB v.m ps)
def bareV (s : Sch) (name : Str) (v : Val) : Bool := bareB s name v.kind v.n v.s (fun ps => fitsM s ps v.m [] && needsB v.m ps)
theorem fitsV_eq (s : Sch) (v : Val) (t : Typ) (w : Bool) : fitsV s v t w = if v.kind = 8 then rightT t else if v.kind = 0 then rightT t && !isT t else rightT t &&
      (if t.lists = 0 then bareV s t.name v else if v.kind = 6 then fitsL s v.l (itemT t) else !w && bareV s t.name v) := by
  cases v; rw [fitsV]; rfl
theorem fitsL_drop {s : Sch} {t : Typ} {l : List Val} {k : Nat} (h : k < l.length) : fitsL s (l.drop k) t = (fitsV s l[k] t true && fitsL s (l.drop (k + 1)) t) := by
  rw [List.drop_eq_getElem_cons h, fitsL]
theorem fitsM_drop {s : Sch} {ps : List Par} {l : List Mem} {k : Nat} (h : k < l.length) : fitsM s ps (l.drop k) ((l.take k).map Mem.name) =
    ((match parO ps l[k].name with | none => false | some p => fitsV s l[k].v p.t false) && (!decide (l[k].name ∈ (l.take k).map Mem.name) && fitsM s ps (l.drop (k + 1)) ((l.take (k + 1)).map Mem.name))) := by
  rw [List.drop_eq_getElem_cons h, List.take_succ_eq_append_getElem h, List.map_append]
  cases hx : l[k]; rw [fitsM]; rfl
/-- What is no list may stand for a list by itself, but not within one. -/
theorem fitsV_down {s : Sch} {v : Val} {t : Typ} {w : Bool} (h8 : v.kind ≠ 8) (h0 : v.kind ≠ 0) (h6 : v.kind ≠ 6) (hr : rightT t = true) (hl : t.lists ≠ 0) : fitsV s v t w = (!w && fitsV s v (itemT t) false) := by
  rw [fitsV_eq, fitsV_eq s v (itemT t), if_neg h8, if_neg h0, if_neg hl, if_neg h6, if_neg h8, if_neg h0, if_neg h6, hr, rightT_item hr hl]
  simp only [Bool.true_and, Bool.not_false, ite_self]
  rfl
theorem fitsV_list {s : Sch} {v : Val} {t : Typ} {w : Bool} (h6 : v.kind = 6) (hr : rightT t = true) (hl : t.lists ≠ 0) : fitsV s v t w = fitsL s v.l (itemT t) := by
  rw [fitsV_eq, if_neg (by omega), if_neg (by omega), if_neg hl, if_pos h6, hr]; rfl
theorem fitsV_bare {s : Sch} {v : Val} {t : Typ} {w : Bool} (h8 : v.kind ≠ 8) (h0 : v.kind ≠ 0) (hr : rightT t = true) (hl : t.lists = 0) : fitsV s v t w = bareV s t.name v := by
  rw [fitsV_eq, if_neg h8, if_neg h0, if_pos hl, hr]; rfl
theorem fitsV_wrong {s : Sch} {v : Val} {t : Typ} {w : Bool} (hr : rightT t = false) : fitsV s v t w = false := by
  rw [fitsV_eq, hr]; simp
/-- literal.Right -/
def litR (s : Sch) (t : Typ) (v : Val) : Bool := allV good v && fitsV s v t false

/-! Where variables stand. -/
mutual
/-- .. as the program reckons it. -/
def spotsP (s : Sch) : Val → Typ → Bool → List Spt
  | .mk k n str l m, t, has =>
    if k = 8 then [⟨str, t, has⟩] else if k = 6 then (if rightT t = true ∧ t.lists ≠ 0 then spotsPL s l (itemT t) else []) else if k = 7 then spotsPM s m (findR s t.name).1.params else []
def spotsPL (s : Sch) : List Val → Typ → List Spt
  | [], _ => []
  | v :: l, t => spotsP s v t false ++ spotsPL s l t
def spotsPM (s : Sch) : List Mem → List Par → List Spt
  | [], _ => []
  | .mk nm v :: m, ps => (match parO ps nm with | none => [] | some p => spotsP s v p.t p.has) ++ spotsPM s m ps
end
mutual
/-- .. as the page reckons it. -/
def spotsR (s : Sch) : Val → Typ → Bool → List Spt
  | .mk k n str l m, t, has =>
    if k = 8 then [⟨str, t, has⟩] else if k = 6 then (if rightT t = true ∧ t.lists ≠ 0 then spotsRL s l (itemT t) else []) else if k = 7 then spotsRM s m (findR s t.name).1.params else []
def spotsRL (s : Sch) : List Val → Typ → List Spt
  | [], _ => []
  | v :: l, t => spotsR s v t false ++ spotsRL s l t
def spotsRM (s : Sch) : List Mem → List Par → List Spt
  | [], _ => []
  | .mk nm v :: m, ps => spotsR s v (parR ps nm).1.t (parR ps nm).1.has ++ spotsRM s m ps
end
theorem bareB_six {s : Sch} {name : Str} {k n : Int} {str : Str} {inp : List Par → Bool} (h : bareB s name k n str inp = true) : k ≠ 6 := by
  rintro rfl
  unfold bareB at h
  split at h
  · cases h
  · split at h
    · simp at h
    · split at h
      · simp at h
      · split at h
        · unfold scalFit at h
          repeat' split at h
          all_goals simp at h
        · cases h
theorem bareB_seven {s : Sch} {name : Str} {n : Int} {str : Str} {inp : List Par → Bool} (h : bareB s name 7 n str inp = true) : inp (findR s name).1.params = true := by
  unfold bareB at h
  unfold findR
  split at h
  · cases h
  · rename_i d hd
    rw [hd]
    split at h
    · simp at h
    · split at h
      · simpa using h
      · split at h
        · unfold scalFit at h
          repeat' split at h
          all_goals simp at h
        · cases h
theorem fitsV_six {s : Sch} {n : Int} {str : Str} {l : List Val} {m : List Mem} {t : Typ} {w : Bool} (h : fitsV s (.mk 6 n str l m) t w = true) : rightT t = true ∧ t.lists ≠ 0 ∧ fitsL s l (itemT t) = true := by
  rw [fitsV, if_neg (by decide), if_neg (by decide)] at h
  simp only [Bool.and_eq_true] at h
  obtain ⟨h1, h2⟩ := h
  by_cases c : t.lists = 0
  · rw [if_pos c] at h2
    exact absurd rfl (bareB_six h2)
  · rw [if_neg c, if_pos trivial] at h2
    exact ⟨h1, c, h2⟩
theorem fitsV_seven {s : Sch} {n : Int} {str : Str} {l : List Val} {m : List Mem} {t : Typ} {w : Bool} (h : fitsV s (.mk 7 n str l m) t w = true) : fitsM s (findR s t.name).1.params m [] = true := by
  rw [fitsV, if_neg (by decide), if_neg (by decide)] at h
  simp only [Bool.and_eq_true] at h
  obtain ⟨h1, h2⟩ := h
  have h3 : bareB s t.name 7 n str (fun ps => fitsM s ps m [] && needsB m ps) = true := by
    by_cases c : t.lists = 0
    · rw [if_pos c] at h2; exact h2
    · rw [if_neg c, if_neg (by decide)] at h2
      simp only [Bool.and_eq_true] at h2
      exact h2.2
  have := bareB_seven h3
  simp only [Bool.and_eq_true] at this
  exact this.1
mutual
theorem spots_eq (s : Sch) : ∀ (v : Val) (t : Typ) (w has : Bool), fitsV s v t w = true → spotsR s v t has = spotsP s v t has
  | .mk k n str l m, t, w, has, h => by
    rw [spotsR, spotsP]
    by_cases h8 : k = 8
    · rw [if_pos h8, if_pos h8]
    · rw [if_neg h8, if_neg h8]
      by_cases h6 : k = 6
      · subst h6
        obtain ⟨h1, h2, h3⟩ := fitsV_six h
        rw [if_pos rfl, if_pos rfl, if_pos ⟨h1, h2⟩, if_pos ⟨h1, h2⟩, spots_eqL s l (itemT t) h3]
      · rw [if_neg h6, if_neg h6]
        by_cases h7 : k = 7
        · subst h7
          rw [if_pos rfl, if_pos rfl, spots_eqM s m _ [] (fitsV_seven h)]
        · rw [if_neg h7, if_neg h7]
theorem spots_eqL (s : Sch) : ∀ (l : List Val) (t : Typ), fitsL s l t = true → spotsRL s l t = spotsPL s l t
  | [], _, _ => by rw [spotsRL, spotsPL]
  | v :: l, t, h => by
    rw [fitsL, Bool.and_eq_true] at h
    rw [spotsRL, spotsPL, spots_eq s v t true false h.1, spots_eqL s l t h.2]
theorem spots_eqM (s : Sch) : ∀ (m : List Mem) (ps : List Par) (seen : List Str), fitsM s ps m seen = true → spotsRM s m ps = spotsPM s m ps
  | [], _, _, _ => by rw [spotsRM, spotsPM]
  | .mk nm v :: m, ps, seen, h => by
    rw [fitsM, Bool.and_eq_true, Bool.and_eq_true] at h
    obtain ⟨h1, h2, h3⟩ := h
    rw [spotsRM, spotsPM, spots_eqM s m ps _ h3]
    unfold parR
    cases hp : parO ps nm with
    | none => rw [hp] at h1; cases h1
    | some p =>
      rw [hp] at h1
      simp only
      rw [spots_eq s v p.t false p.has h1]
end

/-! The variables of a value, each once. -/
def addNew (l : List Str) (x : Str) : List Str := if x ∈ l then l else l ++ [x]
mutual
def varsV : Val → List Str → List Str
  | .mk k n str l m, acc => if k = 8 then addNew acc str else if k = 6 then varsL l acc else if k = 7 then varsM m acc else acc
def varsL : List Val → List Str → List Str
  | [], acc => acc
  | v :: l, acc => varsL l (varsV v acc)
def varsM : List Mem → List Str → List Str
  | [], acc => acc
  | .mk _ v :: m, acc => varsM m (varsV v acc)
end
mutual
theorem vars_spots (s : Sch) : ∀ (v : Val) (t : Typ) (w has : Bool) (acc : List Str), fitsV s v t w = true → varsV v acc = ((spotsP s v t has).map Spt.var).foldl addNew acc
  | .mk k n str l m, t, w, has, acc, h => by
    rw [varsV, spotsP]
    by_cases h8 : k = 8
    · rw [if_pos h8, if_pos h8]; rfl
    · rw [if_neg h8, if_neg h8]
      by_cases h6 : k = 6
      · subst h6
        obtain ⟨h1, h2, h3⟩ := fitsV_six h
        rw [if_pos rfl, if_pos rfl, if_pos ⟨h1, h2⟩, vars_spotsL s l (itemT t) acc h3]
      · rw [if_neg h6, if_neg h6]
        by_cases h7 : k = 7
        · subst h7
          rw [if_pos rfl, if_pos rfl, vars_spotsM s m _ [] acc (fitsV_seven h)]
        · rw [if_neg h7, if_neg h7]; rfl
theorem vars_spotsL (s : Sch) : ∀ (l : List Val) (t : Typ) (acc : List Str), fitsL s l t = true → varsL l acc = ((spotsPL s l t).map Spt.var).foldl addNew acc
  | [], _, _, _ => by rw [varsL, spotsPL]; rfl
  | v :: l, t, acc, h => by
    rw [fitsL, Bool.and_eq_true] at h
    rw [varsL, spotsPL, List.map_append, List.foldl_append, ← vars_spots s v t true false acc h.1, vars_spotsL s l t _ h.2]
theorem vars_spotsM (s : Sch) : ∀ (m : List Mem) (ps : List Par) (seen acc : List Str), fitsM s ps m seen = true → varsM m acc = ((spotsPM s m ps).map Spt.var).foldl addNew acc
  | [], _, _, _, _ => by rw [varsM, spotsPM]; rfl
  | .mk nm v :: m, ps, seen, acc, h => by
    rw [fitsM, Bool.and_eq_true, Bool.and_eq_true] at h
    obtain ⟨h1, h2, h3⟩ := h
    rw [varsM, spotsPM, List.map_append, List.foldl_append, vars_spotsM s m ps _ _ h3]
    cases hp : parO ps nm with
    | none => rw [hp] at h1; cases h1
    | some p =>
      rw [hp] at h1
      simp only
      rw [← vars_spots s v p.t false p.has acc h1]
end

/-! Plain laws. -/
theorem fitsV_two {s : Sch} {v : Val} {t u : Typ} {w : Bool} (h0 : v.kind ≠ 0) (ht : rightT t = true) (hu : rightT u = true) (hl : t.lists = u.lists) (hn : t.name = u.name) (hi : itemT t = itemT u) : fitsV s v t w = fitsV s v u w := by
  rw [fitsV_eq, fitsV_eq, ht, hu, hl, hn, hi, if_neg h0, if_neg h0]
theorem rightT_bits {t u : Typ} (ht : rightT t = true) (hn : u.name = t.name) (hl : u.lists = t.lists) (hm : u.musts / 2 = t.musts / 2) : rightT u = true := by
  rw [rightT_iff] at *
  obtain ⟨h1, h2, h3, h4, h5⟩ := ht
  rw [hn, hl]
  rw [Int.pow_succ] at h5 ⊢
  have h6 : t.musts / 2 < 2 ^ t.lists.toNat := by omega
  exact ⟨h1, h2, h3, by omega, by omega⟩
theorem bareT_name (t : Typ) : (bareT t).name = t.name ∧ (bareT t).lists = t.lists ∧ (bareT t).musts / 2 = t.musts / 2 := by
  unfold bareT
  split
  · refine ⟨rfl, rfl, ?_⟩
    show (if t.musts % 2 = 1 then t.musts - 1 else t.musts) / 2 = _
    split <;> omega
  · exact ⟨rfl, rfl, rfl⟩
theorem mustT_name (t : Typ) : (mustT t).name = t.name ∧ (mustT t).lists = t.lists ∧ (mustT t).musts / 2 = t.musts / 2 := by
  unfold mustT
  split
  · refine ⟨rfl, rfl, ?_⟩
    show (if t.musts % 2 = 1 then t.musts else t.musts + 1) / 2 = _
    split <;> omega
  · exact ⟨rfl, rfl, rfl⟩
theorem right_bareT {t : Typ} (h : rightT t = true) : rightT (bareT t) = true := rightT_bits h (bareT_name t).1 (bareT_name t).2.1 (bareT_name t).2.2
theorem right_mustT {t : Typ} (h : rightT t = true) : rightT (mustT t) = true := rightT_bits h (mustT_name t).1 (mustT_name t).2.1 (mustT_name t).2.2
theorem is_bareT {t : Typ} (h : rightT t = true) : isT (bareT t) = false := by
  unfold isT
  have e : (bareT t).musts % 2 = 0 := by
    unfold bareT
    rw [if_pos h]
    show (if t.musts % 2 = 1 then t.musts - 1 else t.musts) % 2 = 0
    split <;> omega
  rw [e]; simp
theorem is_mustT {t : Typ} (h : rightT t = true) : isT (mustT t) = true := by
  unfold isT
  have e : (mustT t).musts % 2 = 1 := by
    unfold mustT
    rw [if_pos h]
    show (if t.musts % 2 = 1 then t.musts else t.musts + 1) % 2 = 1
    split <;> omega
  rw [e, right_mustT h]; rfl
theorem item_same {t u : Typ} (hn : u.name = t.name) (hl : u.lists = t.lists) (hm : u.musts / 2 = t.musts / 2) : itemT u = itemT t := by
  unfold itemT; rw [hn, hl, hm]
theorem fits_bare_must {s : Sch} {v : Val} {t : Typ} {w : Bool} (h : rightT t = true) (h0 : v.kind ≠ 0) : fitsV s v (bareT t) w = fitsV s v (mustT t) w := by
  obtain ⟨a1, a2, a3⟩ := bareT_name t
  obtain ⟨b1, b2, b3⟩ := mustT_name t
  exact fitsV_two h0 (right_bareT h) (right_mustT h) (a2.trans b2.symm) (a1.trans b1.symm) ((item_same a1 a2 a3).trans (item_same b1 b2 b3).symm)
theorem fits_null {s : Sch} {v : Val} {t : Typ} {w : Bool} (h0 : v.kind = 0) : fitsV s v t w = (rightT t && !isT t) := by
  rw [fitsV_eq, if_neg (by omega), if_pos h0]
theorem lit_bare (s : Sch) (t : Typ) (v : Val) (h : rightT t = true) : (litR s (mustT t) v = true → litR s (bareT t) v = true) ∧ (v.kind ≠ 0 → litR s (bareT t) v = litR s (mustT t) v) ∧ litR s t zeroVal = !isT t := by
  refine ⟨fun hb => ?_, fun h0 => ?_, ?_⟩
  · unfold litR at *
    rw [Bool.and_eq_true] at *
    refine ⟨hb.1, ?_⟩
    by_cases h0 : v.kind = 0
    · rw [fits_null h0, right_bareT h, is_bareT h]; rfl
    · rw [fits_bare_must h h0]; exact hb.2
  · unfold litR
    rw [fits_bare_must h h0]
  · unfold litR
    rw [fits_null rfl, h]
    rw [show allV good zeroVal = true from rfl]; rfl
theorem right_listT {t : Typ} (h : rightT t = true) (hl : t.lists ≠ 4) : rightT (listT t) = true := by
  rw [rightT_iff] at *
  obtain ⟨h1, h2, h3, h4, h5⟩ := h
  refine ⟨h1, ?_, ?_, ?_, ?_⟩
  · show 0 ≤ t.lists + 1; omega
  · show t.lists + 1 ≤ 4; omega
  · show 0 ≤ t.musts * 2; omega
  · show t.musts * 2 < 2 ^ ((t.lists + 1).toNat + 1)
    rw [show (t.lists + 1).toNat = t.lists.toNat + 1 by omega, Int.pow_succ 2 (t.lists.toNat + 1)]
    omega
theorem item_listT (t : Typ) : itemT (listT t) = t := by
  unfold itemT listT
  have e1 : t.lists + 1 - 1 = t.lists := by omega
  have e2 : t.musts * 2 / 2 = t.musts := by omega
  simp only [e1, e2]
theorem lit_alone (s : Sch) (t : Typ) (v : Val) (h : rightT t = true) (hl : t.lists ≠ 4) (h6 : v.kind ≠ 6) (h8 : v.kind ≠ 8) (h0 : v.kind ≠ 0) :
    litR s (listT t) v = litR s t v ∧ litR s (mustT (listT t)) v = litR s t v := by
  have hr := right_listT h hl
  have hm := right_mustT hr
  have hl0 : (listT t).lists ≠ 0 := by
    have := (rightT_iff.1 h).2.1
    show t.lists + 1 ≠ 0; omega
  obtain ⟨b1, b2, b3⟩ := mustT_name (listT t)
  unfold litR
  refine ⟨?_, ?_⟩
  · rw [fitsV_down h8 h0 h6 hr hl0, item_listT]; rfl
  · rw [fitsV_down h8 h0 h6 hm (by rw [b2]; exact hl0), item_same b1 b2 b3, item_listT]; rfl
/-- An item of a list that is written may stand there as itself. -/
theorem fits_within (s : Sch) (v : Val) (t : Typ) : fitsV s v t true = (fitsV s v t false && (decide (t.lists = 0) || (v.kind == 6 || v.kind == 8 || v.kind == 0))) := by
  rw [fitsV_eq, fitsV_eq]
  by_cases h8 : v.kind = 8
  · simp [h8]
  · by_cases h0 : v.kind = 0
    · simp [h0]
    · by_cases hl : t.lists = 0
      · simp [h8, h0, hl]
      · by_cases h6 : v.kind = 6
        · simp [h6, hl]
        · simp [h8, h0, h6, hl]
theorem lit_lists (s : Sch) (t : Typ) (l : List Val) (n : Int) (str : Str) (h : rightT t = true) (hl : t.lists ≠ 4) :
    litR s (listT t) (.mk 6 0 [] l []) = l.all (fun x => litR s t x && (decide (t.lists = 0) || (x.kind == 6 || x.kind == 8 || x.kind == 0))) ∧ (t.lists = 0 → litR s t (.mk 6 0 [] l []) = false) := by
  have hl0 : (listT t).lists ≠ 0 := by
    have := (rightT_iff.1 h).2.1
    show t.lists + 1 ≠ 0; omega
  refine ⟨?_, fun h0 => ?_⟩
  · unfold litR
    rw [fitsV_list rfl (right_listT h hl) hl0, item_listT, allV]
    show ((if (6 : Int) = 6 then allL good l && true else _) && fitsL s l t) = _
    rw [if_pos rfl, Bool.and_true]
    induction l with
    | nil => rw [allL, fitsL]; rfl
    | cons x l ih =>
      rw [allL, fitsL, List.all_cons, ← ih, fits_within]
      cases allV good x <;> cases fitsV s x t false <;> cases allL good l <;> simp
  · unfold litR
    rw [fitsV_bare (v := .mk 6 0 [] l []) (show (6 : Int) ≠ 8 by decide) (show (6 : Int) ≠ 0 by decide) h h0]
    have : bareV s t.name (.mk 6 0 [] l []) ≠ true := fun e => absurd rfl (bareB_six e)
    simp at this
    rw [this, Bool.and_false]
end Go.Proofs.YtijlmchfepjjkaaDoor
