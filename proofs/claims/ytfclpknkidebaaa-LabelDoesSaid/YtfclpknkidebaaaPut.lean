/- The reference's put: the bits of two numbers, one by one; and what joins, and what meets. -/
import Derived.Test.YtfclpknkidebaaaLab
namespace Go.Proofs.Ytfclpknkidebaaa
open Go.RowKit

def putN (a b : Int) (both : Bool) : Nat := if both then U a &&& U b else U a ||| U b
theorem putN_lt (a b : Int) (both : Bool) : putN a b both < 2 ^ 64 := by
  unfold putN
  split
  · exact Nat.lt_of_le_of_lt Nat.and_le_left (U_lt' a)
  · exact Nat.or_lt_two_pow (U_lt' a) (U_lt' b)
theorem putN_bit (a b : Int) (both : Bool) (k : Nat) : (putN a b both).testBit k = if both then (U a).testBit k && (U b).testBit k else (U a).testBit k || (U b).testBit k := by
  unfold putN
  cases both
  · simp [Nat.testBit_or]
  · simp [Nat.testBit_and]

theorem S_wrap (n : Nat) : wrap64 (n : Int) = S n := by rw [S_eq]; unfold wrap64; rfl

/-- m is the lowest k bits. -/
def Low (x k m : Nat) : Prop := m = x % 2 ^ k
theorem low_more {x k m : Nat} (hm : Low x k m) (h : x.testBit k = true) : Low x (k + 1) (m + 2 ^ k) := by
  unfold Low at *
  rw [hm, Nat.mod_pow_succ]
  rw [Nat.testBit_eq_decide_div_mod_eq, decide_eq_true_eq] at h
  rw [h, Nat.mul_one]
theorem low_same {x k m : Nat} (hm : Low x k m) (h : x.testBit k = false) : Low x (k + 1) m := by
  unfold Low at *
  rw [hm, Nat.mod_pow_succ]
  rw [Nat.testBit_eq_decide_div_mod_eq, decide_eq_false_iff_not] at h
  have : x / 2 ^ k % 2 = 0 := by omega
  rw [this]; simp
theorem low_lt {x k m : Nat} (hm : Low x k m) : m < 2 ^ k := by rw [hm]; exact Nat.mod_lt _ (Nat.two_pow_pos k)

set_option maxHeartbeats 2000000 in
theorem put_any (a b : Int) (both : Bool) (w : World) :
    Calls Try.prog 19 #[.int .i64 a, .int .i64 b, .bool both] w fun e w' => e = .returned (.int .i64 (S (putN a b both))) ∧ w = w' := by
  go_enter Try.func19, Try.ntmps19
  go_wp2
  go_loop [7, 8] (fun o n => ∃ k m : Nat, k ≤ 64 ∧ n = .int .i64 k ∧ o = .int .u64 m ∧ Low (putN a b both) k m) (fun _ n => 64 - (intOf n).toNat)
  case atStart => exact ⟨0, 0, by omega, rfl, rfl, by simp [Low, Nat.mod_one]⟩
  case round =>
    obtain ⟨k, m, hk, rfl, rfl, hm⟩ := hrel
    by_cases hlt : k < 64
    · have hbit := putN_bit a b both k
      have hml := low_lt hm
      have h2k : 2 ^ k ≤ 2 ^ 63 := Nat.pow_le_pow_right (by decide) (by omega)
      have hm64 : m + 2 ^ k < 18446744073709551616 := by omega
      have hsh : IntKind.u64.wrap ((m : Int) + IntKind.u64.wrap (2 ^ k)) = ((m + 2 ^ k : Nat) : Int) := by
        rw [IntKind.wrap_u64, IntKind.wrap_u64]
        have : ((2 : Int) ^ k) = ((2 ^ k : Nat) : Int) := by rw [Int.natCast_pow]; rfl
        rw [this]
        omega
      have HS : Hid (IntKind.u64.wrap ((m : Int) + IntKind.u64.wrap (2 ^ k)) = ((m + 2 ^ k : Nat) : Int)) := hsh
      clear hsh hm64 h2k hml
      cases both with
      | false =>
        cases ha : (U a).testBit k with
        | false =>
          cases hb : (U b).testBit k with
          | false =>
            rw [ha, hb] at hbit
            have hm' := low_same hm (by rw [hbit]; rfl)
            have qa : bitB a k = false := by rw [bitB_eq, Int.toNat_natCast, ha]
            have qb : bitB b k = false := by rw [bitB_eq, Int.toNat_natCast, hb]
            clear ha hb hbit hm
            go_wp2_with fail
            refine (bit_any a k (by omega) (by omega) _).mono ?_
            rintro e w' ⟨rfl, rfl⟩
            rw [qa]
            go_wp2_with fail
            refine (bit_any a k (by omega) (by omega) _).mono ?_
            rintro e w' ⟨rfl, rfl⟩
            rw [qa]
            go_wp2_with fail
            refine (bit_any b k (by omega) (by omega) _).mono ?_
            rintro e w' ⟨rfl, rfl⟩
            rw [qb]
            go_wp2_with fail
            go_round
            case rel => exact ⟨k + 1, m, by omega, by go_num, rfl, hm'⟩
            case measure => simp [intOf]; omega
          | true =>
            rw [ha, hb] at hbit
            have hm' := low_more hm (by rw [hbit]; rfl)
            have qa : bitB a k = false := by rw [bitB_eq, Int.toNat_natCast, ha]
            have qb : bitB b k = true := by rw [bitB_eq, Int.toNat_natCast, hb]
            clear ha hb hbit hm
            go_wp2_with fail
            refine (bit_any a k (by omega) (by omega) _).mono ?_
            rintro e w' ⟨rfl, rfl⟩
            rw [qa]
            go_wp2_with fail
            refine (bit_any a k (by omega) (by omega) _).mono ?_
            rintro e w' ⟨rfl, rfl⟩
            rw [qa]
            go_wp2_with fail
            refine (bit_any b k (by omega) (by omega) _).mono ?_
            rintro e w' ⟨rfl, rfl⟩
            rw [qb]
            go_wp2_with fail
            go_round
            case rel => exact ⟨k + 1, m + 2 ^ k, by omega, by go_num, congrArg (Value.int .u64) HS.out, hm'⟩
            case measure => simp [intOf]; omega
        | true =>
          cases hb : (U b).testBit k with
          | false =>
            rw [ha, hb] at hbit
            have hm' := low_more hm (by rw [hbit]; rfl)
            have qa : bitB a k = true := by rw [bitB_eq, Int.toNat_natCast, ha]
            have qb : bitB b k = false := by rw [bitB_eq, Int.toNat_natCast, hb]
            clear ha hb hbit hm
            go_wp2_with fail
            refine (bit_any a k (by omega) (by omega) _).mono ?_
            rintro e w' ⟨rfl, rfl⟩
            rw [qa]
            go_wp2_with fail
            refine (bit_any b k (by omega) (by omega) _).mono ?_
            rintro e w' ⟨rfl, rfl⟩
            rw [qb]
            go_wp2_with fail
            refine (bit_any a k (by omega) (by omega) _).mono ?_
            rintro e w' ⟨rfl, rfl⟩
            rw [qa]
            go_wp2_with fail
            go_round
            case rel => exact ⟨k + 1, m + 2 ^ k, by omega, by go_num, congrArg (Value.int .u64) HS.out, hm'⟩
            case measure => simp [intOf]; omega
          | true =>
            rw [ha, hb] at hbit
            have hm' := low_more hm (by rw [hbit]; rfl)
            have qa : bitB a k = true := by rw [bitB_eq, Int.toNat_natCast, ha]
            have qb : bitB b k = true := by rw [bitB_eq, Int.toNat_natCast, hb]
            clear ha hb hbit hm
            go_wp2_with fail
            refine (bit_any a k (by omega) (by omega) _).mono ?_
            rintro e w' ⟨rfl, rfl⟩
            rw [qa]
            go_wp2_with fail
            refine (bit_any b k (by omega) (by omega) _).mono ?_
            rintro e w' ⟨rfl, rfl⟩
            rw [qb]
            go_wp2_with fail
            go_round
            case rel => exact ⟨k + 1, m + 2 ^ k, by omega, by go_num, congrArg (Value.int .u64) HS.out, hm'⟩
            case measure => simp [intOf]; omega
      | true =>
        cases ha : (U a).testBit k with
        | false =>
          cases hb : (U b).testBit k with
          | false =>
            rw [ha, hb] at hbit
            have hm' := low_same hm (by rw [hbit]; rfl)
            have qa : bitB a k = false := by rw [bitB_eq, Int.toNat_natCast, ha]
            have qb : bitB b k = false := by rw [bitB_eq, Int.toNat_natCast, hb]
            clear ha hb hbit hm
            go_wp2_with fail
            refine (bit_any a k (by omega) (by omega) _).mono ?_
            rintro e w' ⟨rfl, rfl⟩
            rw [qa]
            go_wp2_with fail
            go_round
            case rel => exact ⟨k + 1, m, by omega, by go_num, rfl, hm'⟩
            case measure => simp [intOf]; omega
          | true =>
            rw [ha, hb] at hbit
            have hm' := low_same hm (by rw [hbit]; rfl)
            have qa : bitB a k = false := by rw [bitB_eq, Int.toNat_natCast, ha]
            have qb : bitB b k = true := by rw [bitB_eq, Int.toNat_natCast, hb]
            clear ha hb hbit hm
            go_wp2_with fail
            refine (bit_any a k (by omega) (by omega) _).mono ?_
            rintro e w' ⟨rfl, rfl⟩
            rw [qa]
            go_wp2_with fail
            go_round
            case rel => exact ⟨k + 1, m, by omega, by go_num, rfl, hm'⟩
            case measure => simp [intOf]; omega
        | true =>
          cases hb : (U b).testBit k with
          | false =>
            rw [ha, hb] at hbit
            have hm' := low_same hm (by rw [hbit]; rfl)
            have qa : bitB a k = true := by rw [bitB_eq, Int.toNat_natCast, ha]
            have qb : bitB b k = false := by rw [bitB_eq, Int.toNat_natCast, hb]
            clear ha hb hbit hm
            go_wp2_with fail
            refine (bit_any a k (by omega) (by omega) _).mono ?_
            rintro e w' ⟨rfl, rfl⟩
            rw [qa]
            go_wp2_with fail
            refine (bit_any b k (by omega) (by omega) _).mono ?_
            rintro e w' ⟨rfl, rfl⟩
            rw [qb]
            go_wp2_with fail
            go_round
            case rel => exact ⟨k + 1, m, by omega, by go_num, rfl, hm'⟩
            case measure => simp [intOf]; omega
          | true =>
            rw [ha, hb] at hbit
            have hm' := low_more hm (by rw [hbit]; rfl)
            have qa : bitB a k = true := by rw [bitB_eq, Int.toNat_natCast, ha]
            have qb : bitB b k = true := by rw [bitB_eq, Int.toNat_natCast, hb]
            clear ha hb hbit hm
            go_wp2_with fail
            refine (bit_any a k (by omega) (by omega) _).mono ?_
            rintro e w' ⟨rfl, rfl⟩
            rw [qa]
            go_wp2_with fail
            refine (bit_any b k (by omega) (by omega) _).mono ?_
            rintro e w' ⟨rfl, rfl⟩
            rw [qb]
            go_wp2_with fail
            go_round
            case rel => exact ⟨k + 1, m + 2 ^ k, by omega, by go_num, congrArg (Value.int .u64) HS.out, hm'⟩
            case measure => simp [intOf]; omega
    · obtain rfl : k = 64 := by omega
      have e1 : Hid (m = putN a b both) := by
        show m = putN a b both
        rw [hm, Nat.mod_eq_of_lt (putN_lt a b both)]
      clear hm
      go_wp2
      go_ret
      exact ⟨congrArg (fun x => Ending.returned (.int .i64 x)) (by rw [← e1.out, S_wrap]), rfl⟩
end Go.Proofs.Ytfclpknkidebaaa
