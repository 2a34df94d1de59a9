/- What the label's functions do: contracts. -/
import Derived.Test.YtfclpknkidebaaaProg
import Derived.Below
import Derived.WalkKit
import Derived.Outline
import Derived.BigRegion
import Derived.KernelRfl
import Derived.Deep.QuietTactic
import Derived.BigQuiet
import Derived.WalkLawsBesides
import Derived.LoopTactic
import Derived.Test.YtfclpknkidebaaaLabPure
import Derived.Test.YtfclpknkidebaaaHeap
namespace Go.Proofs.Ytfclpknkidebaaa
open Go.RowKit

abbrev lab (l c : Int) : Value := .agg #[.int .i64 l, .int .i64 c]


theorem leq_any (la ca lb cb : Int) (w : World) :
    Calls Try.prog 7 #[lab la ca, lab lb cb] w fun e w' => e = .returned (.bool (leqB la ca lb cb)) ∧ Below w.heap.size w w' := by
  by_cases h : la ≤ lb
  · have hd : decide (la ≤ lb) = true := by simpa using h
    have e1 : leqB la ca lb cb = (bits .andNot .i64 ca cb == 0) := by simp [leqB, h]
    rw [e1]
    go_enter Try.func7, Try.ntmps7
    go_wp2
    go_ret
    exact ⟨rfl, ((Below.refl _ _).alloc (Nat.le_refl _) _).alloc (by simp) _⟩
  · have hd : decide (la ≤ lb) = false := by simpa using h
    have e1 : leqB la ca lb cb = false := by simp [leqB, h]
    rw [e1]
    go_enter Try.func7, Try.ntmps7
    go_wp2
    go_ret
    exact ⟨rfl, ((Below.refl _ _).alloc (Nat.le_refl _) _).alloc (by simp) _⟩

theorem below3 {w : World} (a b c : Obj) : Below w.heap.size w (((w.alloc a).alloc b).alloc c) :=
  (((Below.refl _ _).alloc (Nat.le_refl _) _).alloc (by simp) _).alloc (by simp; omega) _

theorem join_any (la ca lb cb : Int) (w : World) :
    Calls Try.prog 9 #[lab la ca, lab lb cb] w fun e w' => e = .returned (lab (max la lb) (bits .or .i64 ca cb)) ∧ Below w.heap.size w w' := by
  by_cases h : la < lb
  · have e1 : max la lb = lb := by omega
    rw [e1]
    clear e1
    go_enter Try.func9, Try.ntmps9
    go_wp2
    exact bodyPost_ret (v := lab lb (bits .or .i64 ca cb)) (by simp [results, Try.results9, go_sem]) rfl ⟨rfl, below3 _ _ _⟩
  · have e1 : max la lb = la := by omega
    rw [e1]
    clear e1
    go_enter Try.func9, Try.ntmps9
    go_wp2
    exact bodyPost_ret (v := lab la (bits .or .i64 ca cb)) (by simp [results, Try.results9, go_sem]) rfl ⟨rfl, below3 _ _ _⟩

theorem meet_any (la ca lb cb : Int) (w : World) :
    Calls Try.prog 10 #[lab la ca, lab lb cb] w fun e w' => e = .returned (lab (min la lb) (bits .and .i64 ca cb)) ∧ Below w.heap.size w w' := by
  by_cases h : lb < la
  · have e1 : min la lb = lb := by omega
    rw [e1]
    clear e1
    go_enter Try.func10, Try.ntmps10
    go_wp2
    exact bodyPost_ret (v := lab lb (bits .and .i64 ca cb)) (by simp [results, Try.results10, go_sem]) rfl ⟨rfl, below3 _ _ _⟩
  · have e1 : min la lb = la := by omega
    rw [e1]
    clear e1
    go_enter Try.func10, Try.ntmps10
    go_wp2
    exact bodyPost_ret (v := lab la (bits .and .i64 ca cb)) (by simp [results, Try.results10, go_sem]) rfl ⟨rfl, below3 _ _ _⟩


theorem good_any (l c : Int) (w : World) :
    Calls Try.prog 11 #[lab l c] w fun e w' => e = .returned (.bool (goodB l c)) ∧ Below w.heap.size w w' := by
  have one : ∀ {o : Obj}, Below w.heap.size w (w.alloc o) := (Below.refl _ _).alloc (Nat.le_refl _) _
  by_cases h1 : 0 ≤ l
  · have d1 : decide (0 ≤ l) = true := by simpa using h1
    by_cases h2 : l ≤ 7
    · have d2 : decide (l ≤ 7) = true := by simpa using h2
      by_cases h3 : 0 ≤ c
      · have d3 : decide (0 ≤ c) = true := by simpa using h3
        have e1 : goodB l c = decide (c < 65536) := by simp [goodB, h1, h2, h3]
        rw [e1]
        go_enter Try.func11, Try.ntmps11
        go_wp2
        go_ret
        exact ⟨rfl, one⟩
      · have d3 : decide (0 ≤ c) = false := by simpa using h3
        have e1 : goodB l c = false := by simp [goodB, h3]
        rw [e1]
        go_enter Try.func11, Try.ntmps11
        go_wp2
        go_ret
        exact ⟨rfl, one⟩
    · have d2 : decide (l ≤ 7) = false := by simpa using h2
      have e1 : goodB l c = false := by simp [goodB, h2]
      rw [e1]
      go_enter Try.func11, Try.ntmps11
      go_wp2
      go_ret
      exact ⟨rfl, one⟩
  · have d1 : decide (0 ≤ l) = false := by simpa using h1
    have e1 : goodB l c = false := by simp [goodB, h1]
    rw [e1]
    go_enter Try.func11, Try.ntmps11
    go_wp2
    go_ret
    exact ⟨rfl, one⟩

theorem bit_any (x n : Int) (h0 : 0 ≤ n) (h : n < 64) (w : World) :
    Calls Try.prog 18 #[.int .i64 x, .int .i64 n] w fun e w' => e = .returned (.bool (bitB x n)) ∧ w = w' := by
  go_enter Try.func18, Try.ntmps18
  go_wp2
  go_ret
  exact ⟨rfl, rfl⟩

theorem ret_bool {a b : Bool} (h : a = b) : Ending.returned (.bool a) = .returned (.bool b) := by rw [h]

/-- No bit from lo on to k. -/
def NoBit (c : Int) (lo k : Nat) : Prop := ∀ i, lo ≤ i → i < k → (U c).testBit i = false

theorem noBit_good {l c : Int} (h : NoBit c 16 64) (wc : W64 c) : goodB l c = (decide (0 ≤ l) && decide (l < 8)) := by
  have hu : U c < 2 ^ 16 := Nat.lt_pow_two_of_testBit _ fun i hi => by
    by_cases h64 : i < 64
    · exact h i hi h64
    · exact Nat.testBit_lt_two_pow (Nat.lt_of_lt_of_le (U_lt' c) (Nat.pow_le_pow_right (by decide) (by omega)))
  have h2 := (U_small wc).1 hu
  unfold goodB
  rw [Bool.eq_iff_iff]
  simp
  omega
theorem bit_bad {l c : Int} {i : Nat} (h : (U c).testBit i = true) (hi : 16 ≤ i) (wc : W64 c) : goodB l c = false := by
  unfold goodB
  rw [decide_eq_false_iff_not]
  intro ⟨_, _, h3, h4⟩
  have hu := (U_small wc).2 ⟨h3, h4⟩
  rw [Nat.testBit_lt_two_pow (Nat.lt_of_lt_of_le hu (Nat.pow_le_pow_right (n := 2) (by decide) hi))] at h
  cases h

set_option maxHeartbeats 400000 in
theorem refGood_any (l c : Int) (wc : W64 c) (w : World) :
    Calls Try.prog 12 #[lab l c] w fun e w' => e = .returned (.bool (goodB l c)) ∧ Below w.heap.size w w' := by
  go_enter Try.func12, Try.ntmps12
  go_wp2
  go_loop [3] (fun n => ∃ k : Nat, 16 ≤ k ∧ k ≤ 64 ∧ n = .int .i64 k ∧ NoBit c 16 k) (fun n => 64 - (intOf n).toNat)
  case atStart => exact ⟨16, by omega, by omega, rfl, fun i _ _ => by omega⟩
  case round =>
    obtain ⟨k, hk1, hk2, rfl, hno⟩ := hrel
    by_cases hlt : k < 64
    · go_wp2_with fail
      refine (bit_any c k (by omega) (by omega) _).mono ?_
      rintro e w' ⟨rfl, rfl⟩
      rw [bitB_eq, Int.toNat_natCast]
      cases hb : (U c).testBit k with
      | true =>
        have e1 : Hid (goodB l c = false) := bit_bad (l := l) hb hk1 wc
        clear hno
        go_wp2
        go_ret
        exact ⟨ret_bool e1.out.symm, (Below.refl _ _).alloc (Nat.le_refl _) _⟩
      | false =>
        have hno' : NoBit c 16 (k + 1) := fun i h1 h2 => by
          by_cases e : i = k
          · rw [e]; exact hb
          · exact hno i h1 (by omega)
        clear hb hno
        go_wp2
        go_round
        case rel => exact ⟨k + 1, by omega, by omega, by go_num, hno'⟩
        case measure => simp [intOf]; omega
    · obtain rfl : k = 64 := by omega
      have e1 : Hid (goodB l c = (decide (0 ≤ l) && decide (l < 8))) := noBit_good hno wc
      clear hno
      by_cases h0 : 0 ≤ l
      · have hd : decide (0 ≤ l) = true := by simpa using h0
        go_wp2
        go_ret
        exact ⟨ret_bool (by rw [e1.out, hd, Bool.true_and]), (Below.refl _ _).alloc (Nat.le_refl _) _⟩
      · have hd : decide (0 ≤ l) = false := by simpa using h0
        go_wp2
        go_ret
        exact ⟨ret_bool (by rw [e1.out, hd, Bool.false_and]), (Below.refl _ _).alloc (Nat.le_refl _) _⟩

/-- Up to bit k, each of a's is one of b's. -/
def SubTo (a b : Int) (k : Nat) : Prop := ∀ i, i < k → (U a).testBit i = true → (U b).testBit i = true

theorem subTo_all {a b : Int} (h : SubTo a b 64) : Sub a b := fun i hi => h i (by
  by_cases h64 : i < 64
  · exact h64
  · rw [Nat.testBit_lt_two_pow (Nat.lt_of_lt_of_le (U_lt' a) (Nat.pow_le_pow_right (by decide) (by omega)))] at hi
    cases hi) hi

set_option maxHeartbeats 400000 in
theorem refLeq_any (la ca lb cb : Int) (w : World) :
    Calls Try.prog 13 #[lab la ca, lab lb cb] w fun e w' => e = .returned (.bool (leqB la ca lb cb)) ∧ Below w.heap.size w w' := by
  go_enter Try.func13, Try.ntmps13
  go_wp2
  go_loop [5] (fun n => ∃ k : Nat, k ≤ 64 ∧ n = .int .i64 k ∧ SubTo ca cb k) (fun n => 64 - (intOf n).toNat)
  case atStart => exact ⟨0, by omega, rfl, fun i h => by omega⟩
  case round =>
    obtain ⟨k, hk2, rfl, hno⟩ := hrel
    by_cases hlt : k < 64
    · go_wp2_with fail
      refine (bit_any ca k (by omega) (by omega) _).mono ?_
      rintro e w' ⟨rfl, rfl⟩
      rw [bitB_eq, Int.toNat_natCast]
      cases ha : (U ca).testBit k with
      | false =>
        have hno' : SubTo ca cb (k + 1) := fun i h1 h2 => by
          by_cases e : i = k
          · rw [e, ha] at h2; cases h2
          · exact hno i (by omega) h2
        clear ha hno
        go_wp2
        go_round
        case rel => exact ⟨k + 1, by omega, by go_num, hno'⟩
        case measure => simp [intOf]; omega
      | true =>
        go_wp2_with fail
        refine (bit_any cb k (by omega) (by omega) _).mono ?_
        rintro e w' ⟨rfl, rfl⟩
        rw [bitB_eq, Int.toNat_natCast]
        cases hb : (U cb).testBit k with
        | true =>
          have hno' : SubTo ca cb (k + 1) := fun i h1 h2 => by
            by_cases e : i = k
            · rw [e]; exact hb
            · exact hno i (by omega) h2
          clear ha hb hno
          go_wp2
          go_round
          case rel => exact ⟨k + 1, by omega, by go_num, hno'⟩
          case measure => simp [intOf]; omega
        | false =>
          have e1 : Hid (leqB la ca lb cb = false) := by
            show leqB la ca lb cb = false
            rw [Bool.eq_false_iff]
            intro hx
            have := ((leqB_iff _ _ _ _).1 hx).2 k ha
            rw [hb] at this; cases this
          clear ha hb hno
          go_wp2
          go_ret
          exact ⟨ret_bool e1.out.symm, ((Below.refl _ _).alloc (Nat.le_refl _) _).alloc (by simp) _⟩
    · obtain rfl : k = 64 := by omega
      have e1 : Hid (leqB la ca lb cb = !(decide (lb < la))) := by
        show leqB la ca lb cb = !(decide (lb < la))
        rw [Bool.eq_iff_iff, leqB_iff]
        simp
        exact fun _ => subTo_all hno
      clear hno
      go_wp2
      go_ret
      exact ⟨ret_bool (by rw [e1.out]), ((Below.refl _ _).alloc (Nat.le_refl _) _).alloc (by simp) _⟩

end Go.Proofs.Ytfclpknkidebaaa
