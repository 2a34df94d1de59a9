/- Plain facts on the bits of whole numbers of 64 bits. -/
import Derived.WalkKit
import Derived.Laws.BitsAllLaws
import Derived.Laws.Bits64
import Derived.OpenShut
namespace Go.Proofs.Ytfclpknkidebaaa
open Go.RowKit

/-- The 64 bits of a number. -/
def U (x : Int) : Nat := (BitVec.ofInt 64 x).toNat
/-- The number of 64 bits. -/
def S (n : Nat) : Int := IntKind.i64.wrap n

def W64 (x : Int) : Prop := -9223372036854775808 ≤ x ∧ x < 9223372036854775808

theorem W64_of {x : Int} (h : (Lit.int .i64 x).wf = true) : W64 x := by
  have := bounds_i64 h
  exact ⟨by omega, by omega⟩

theorem U_eq (x : Int) : (U x : Int) = x % 18446744073709551616 := by
  unfold U
  rw [BitVec.toNat_ofInt]
  have h : 0 ≤ x % ((2 ^ 64 : Nat) : Int) := Int.emod_nonneg _ (by decide)
  rw [Int.toNat_of_nonneg h]
  rfl
theorem U_lt (x : Int) : U x < 18446744073709551616 := (BitVec.ofInt 64 x).isLt
theorem U_lt' (x : Int) : U x < 2 ^ 64 := U_lt x

theorem S_eq (n : Nat) : S n = ((n : Int) + 9223372036854775808) % 18446744073709551616 - 9223372036854775808 := IntKind.wrap_i64 _
theorem S_U {x : Int} (h : W64 x) : S (U x) = x := by
  rw [S_eq, U_eq]; unfold W64 at h; omega
theorem U_S {n : Nat} (h : n < 18446744073709551616) : U (S n) = n := by
  have := U_eq (S n)
  rw [S_eq] at this
  rw [S_eq]
  omega
theorem S_W (n : Nat) : W64 (S n) := by rw [S_eq]; unfold W64; omega

theorem and_i64 (a b : Int) : bits .and .i64 a b = S (U a &&& U b) := by
  show IntKind.i64.wrap ((BitVec.ofInt 64 a &&& BitVec.ofInt 64 b).toNat : Int) = _
  rw [BitVec.toNat_and]; rfl
theorem or_i64 (a b : Int) : bits .or .i64 a b = S (U a ||| U b) := by
  show IntKind.i64.wrap ((BitVec.ofInt 64 a ||| BitVec.ofInt 64 b).toNat : Int) = _
  rw [BitVec.toNat_or]; rfl

theorem U_and (a b : Int) : U (bits .and .i64 a b) = U a &&& U b := by
  rw [and_i64, U_S (Nat.lt_of_le_of_lt Nat.and_le_left (U_lt a))]
theorem U_or (a b : Int) : U (bits .or .i64 a b) = U a ||| U b := by
  rw [or_i64, U_S (Nat.or_lt_two_pow (U_lt' a) (U_lt' b))]

/-- Each bit of a is one of b. -/
def Sub (a b : Int) : Prop := ∀ i, (U a).testBit i = true → (U b).testBit i = true

theorem U_zero : U 0 = 0 := by decide

theorem andNot_i64 (a b : Int) : (bits .andNot .i64 a b == 0) = true ↔ Sub a b := by
  have e : bits .andNot .i64 a b = S ((BitVec.ofInt 64 a &&& ~~~ BitVec.ofInt 64 b).toNat) := rfl
  have hlt : (BitVec.ofInt 64 a &&& ~~~ BitVec.ofInt 64 b).toNat < 18446744073709551616 := (BitVec.ofInt 64 a &&& ~~~ BitVec.ofInt 64 b).isLt
  rw [beq_iff_eq, e]
  have h0 : S (BitVec.ofInt 64 a &&& ~~~ BitVec.ofInt 64 b).toNat = 0 ↔ (BitVec.ofInt 64 a &&& ~~~ BitVec.ofInt 64 b).toNat = 0 := by
    rw [S_eq]; omega
  rw [h0]
  constructor
  · intro h i hi
    have hb : (BitVec.ofInt 64 a &&& ~~~ BitVec.ofInt 64 b).getLsbD i = false := by
      show Nat.testBit _ i = false
      rw [h]; exact Nat.zero_testBit i
    rw [BitVec.getLsbD_and, BitVec.getLsbD_not] at hb
    have hi' : (BitVec.ofInt 64 a).getLsbD i = true := hi
    have hlt64 : i < 64 := BitVec.lt_of_getLsbD hi'
    rw [hi'] at hb
    simp [hlt64] at hb
    exact hb
  · intro h
    refine Nat.eq_of_testBit_eq fun i => ?_
    rw [Nat.zero_testBit]
    show (BitVec.ofInt 64 a &&& ~~~ BitVec.ofInt 64 b).getLsbD i = false
    rw [BitVec.getLsbD_and, BitVec.getLsbD_not]
    cases hi : (BitVec.ofInt 64 a).getLsbD i with
    | false => rfl
    | true =>
      have : (BitVec.ofInt 64 b).getLsbD i = true := h i hi
      rw [this]
      simp

def leqB (la ca lb cb : Int) : Bool := decide (la ≤ lb) && (bits .andNot .i64 ca cb == 0)
def goodB (l c : Int) : Bool := decide (0 ≤ l ∧ l ≤ 7 ∧ 0 ≤ c ∧ c < 65536)

theorem leqB_iff (la ca lb cb : Int) : leqB la ca lb cb = true ↔ la ≤ lb ∧ Sub ca cb := by
  unfold leqB
  rw [Bool.and_eq_true, andNot_i64, decide_eq_true_eq]

theorem Sub.refl (a : Int) : Sub a a := fun _ h => h
theorem Sub.trans {a b c : Int} (h : Sub a b) (k : Sub b c) : Sub a c := fun i hi => k i (h i hi)
theorem Sub.antisymm {a b : Int} (wa : W64 a) (wb : W64 b) (h : Sub a b) (k : Sub b a) : a = b := by
  have : U a = U b := Nat.eq_of_testBit_eq fun i => Bool.eq_iff_iff.2 ⟨h i, k i⟩
  rw [← S_U wa, ← S_U wb, this]

/-- One bit, as the reference asks for it. -/
def bitB (x n : Int) : Bool := bits .and .u64 (IntKind.u64.wrap x / 2 ^ n.toNat) 1 == 1

theorem wrap_U (x : Int) : IntKind.u64.wrap x = (U x : Int) := by
  rw [U_eq, IntKind.wrap_u64]

theorem bitB_eq (x n : Int) : bitB x n = (U x).testBit n.toNat := by
  unfold bitB
  rw [wrap_U]
  have e : ((U x : Int) / 2 ^ n.toNat) = ((U x / 2 ^ n.toNat : Nat) : Int) := by
    rw [Int.natCast_ediv, Int.natCast_pow]; rfl
  have hlt : U x / 2 ^ n.toNat < 18446744073709551616 := Nat.lt_of_le_of_lt (Nat.div_le_self _ _) (U_lt x)
  rw [e, u64_and _ _ (Int.natCast_nonneg _) (by omega) (by decide) (by decide), Int.toNat_natCast]
  rw [Nat.testBit_eq_decide_div_mod_eq]
  show ((((U x / 2 ^ n.toNat) &&& 1 : Nat) : Int) == 1) = _
  rw [Nat.and_one_is_mod]
  rw [Bool.eq_iff_iff, beq_iff_eq, decide_eq_true_eq]
  omega

theorem U_small {c : Int} (h : W64 c) : U c < 65536 ↔ 0 ≤ c ∧ c < 65536 := by
  have := U_eq c
  unfold W64 at h
  constructor
  · intro hu
    have hs := S_U h
    rw [S_eq] at hs
    omega
  · intro hc
    omega

end Go.Proofs.Ytfclpknkidebaaa
