/-
  The reference: Code, Codes, Good.
-/
import Derived.Lib.TrimUEq
import Derived.Test.YtijlmchfepjjkaaGreatDoorMBits
import Derived.Test.YtijlmchfepjjkaaGreatDoorMLet
namespace Go.Av
open Go
set_option linter.unusedSectionVars false
set_option linter.unusedVariables false
section
variable [Globals]
variable {P : Program} {all : Array Oper} {draw : Bool} {K : AX → Slots → St → Prop} {rest : List Oper} {acc : List Tag} {s : Slots} {σ : St} {d : Tmp} {ty : TypeId} {pos : String} {af : Array Edge}
theorem A.shl6 {x y : Operand} {T U : TypeId} {a : Int} {m : Nat} {k2 : IntKind} (hx : ev? s x = some (.int .i64 a)) (hy : ev? s y = some (.int k2 6)) (ha : a = (m : Int)) (hm : m < 144115188075855872)
    (k' : AOps P all draw K rest (.pure :: acc) ((d, .int .i64 ((m * 64 : Nat) : Int)) :: s) σ) : AOps P all draw K (⟨some d, .binOp .shl T x y U, ty, pos, af, none⟩ :: rest) acc s σ :=
  A.shl hx hy (by decide) (by
    subst ha
    have e : ((m : Int) * 2 ^ min (6 : Int).toNat IntKind.i64.bits) = ((m * 64 : Nat) : Int) := by
      rw [show min (6 : Int).toNat IntKind.i64.bits = 6 from rfl, Int.natCast_mul]; rfl
    rw [e, wrap_nat (by omega)]) k'
end
end Go.Av
namespace Go.Proofs.YtijlmchfepjjkaaGreatDoor
open Go Go.Av
set_option maxRecDepth 100000
set_option maxHeartbeats 8000000
set_option linter.unusedVariables false
set_option linter.unusedSimpArgs false
attribute [local irreducible] HCode AOps PFn AFn Av.Step TStep

def finC (c low w : Nat) : Nat × Nat := if c < low ∨ 1114111 < c ∨ (55296 ≤ c ∧ c < 57344) then (0, 0) else (c, w)
def codeP (n b0 b1 b2 b3 : Nat) : Nat × Nat :=
  if b0 < 128 then (b0, 1)
  else if 194 ≤ b0 ∧ b0 < 224 then (if 2 ≤ n ∧ (128 ≤ b1 ∧ b1 ≤ 191) then finC (b0 % 32 * 64 + b1 % 64) 128 2 else (0, 0))
  else if 224 ≤ b0 ∧ b0 < 240 then (if 3 ≤ n ∧ (128 ≤ b1 ∧ b1 ≤ 191) ∧ (128 ≤ b2 ∧ b2 ≤ 191) then finC ((b0 % 16 * 64 + b1 % 64) * 64 + b2 % 64) 2048 3 else (0, 0))
  else if 240 ≤ b0 ∧ b0 < 245 then (if 4 ≤ n ∧ (128 ≤ b1 ∧ b1 ≤ 191) ∧ (128 ≤ b2 ∧ b2 ≤ 191) ∧ (128 ≤ b3 ∧ b3 ≤ 191) then finC (((b0 % 8 * 64 + b1 % 64) * 64 + b2 % 64) * 64 + b3 % 64) 65536 4 else (0, 0))
  else (0, 0)
theorem codeP_eq (n b0 b1 b2 b3 : Nat) (h0 : b0 < 256) (h1 : b1 < 256) (h2 : b2 < 256) (h3 : b3 < 256) :
    codeP n b0 b1 b2 b3 = if Lib.decodeN n b0 b1 b2 b3 = (65533, 1) then (0, 0) else Lib.decodeN n b0 b1 b2 b3 := by
  unfold codeP Lib.decodeN finC
  repeat' split
  all_goals first
    | rfl
    | (exfalso; simp only [Prod.mk.injEq] at *; omega)
    | (simp only [Prod.mk.injEq] at *; omega)
    | (exfalso; rename_i hx; exact hx rfl)
    | (exfalso; simp only [Prod.mk.injEq, and_self, and_true, true_and, not_true_eq_false] at *; done)
    | (exfalso; simp only [Prod.mk.injEq, and_self, and_true, true_and, not_true_eq_false] at *; omega)
    | (simp only [Prod.mk.injEq, and_self, and_true, true_and] at *; omega)
/-- The code point at the head, and its width; (0, 0): none. -/
def codeL (l : Str) : Nat × Nat := if Lib.decodeL l = (65533, 1) then (0, 0) else Lib.decodeL l
theorem codeL_eq (s : Str) (i : Nat) : codeL (s.drop i) = codeP (s.length - i) (s.getD i 0).toNat (s.getD (i + 1) 0).toNat (s.getD (i + 2) 0).toNat (s.getD (i + 3) 0).toNat := by
  unfold codeL
  rw [codeP_eq _ _ _ _ _ (UInt8.toNat_lt _) (UInt8.toNat_lt _) (UInt8.toNat_lt _) (UInt8.toNat_lt _), Lib.decodeL_N, List.length_drop, Lib.getD_dropU, Lib.getD_dropU, Lib.getD_dropU, Lib.getD_dropU, Nat.add_zero]
end Go.Proofs.YtijlmchfepjjkaaGreatDoor
