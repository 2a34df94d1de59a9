/- The walk of PumpKeeps. -/
import Derived.Test.YtniiefcbiapieaaPumpOrderWalk
import Derived.OpenShut
import Derived.Deep.CutBlock
namespace Go.Proofs.Ytniiefcbiapieaa
open Go.RowKit

/-- The squares that are sent. -/
def sq (n : Nat) : List Int := (List.range n).map fun (i : Nat) => ((i : Int) * (i : Int))
theorem sq_length (n : Nat) : (sq n).length = n := by simp [sq]
theorem sq_snoc (n : Nat) : sq n ++ [(n : Int) * n] = sq (n + 1) := by simp [sq, List.range_succ]
theorem sq_get {n i : Nat} (h : i < n) : (sq n).getD i 0 = (i : Int) * i := by simp [sq, List.getD_eq_getElem?_getD, h]

theorem square_small {k : Nat} (h : k < 256) : (0 : Int) ≤ (k : Int) * k ∧ (k : Int) * k < 65536 := by
  have h1 : k * k ≤ 255 * 255 := Nat.mul_le_mul (by omega) (by omega)
  have h2 : ((k * k : Nat) : Int) = (k : Int) * k := Int.natCast_mul k k
  omega

def KeepsAt (w : World) (s gp n : Nat) (i : Value) (wr : World) : Prop :=
  ∃ (k : Nat) (γ : Nat → Option (Nat × Obj)), i = .int .i64 k ∧ k ≤ n ∧ Own w wr γ ∧ γ 1 = some (gp, pumpO s (sq k))

set_option maxRecDepth 100000 in
set_option maxHeartbeats 2000000 in
theorem pumpKeeps_nat (size n behind : Nat) (h1 : size < 256) (h2 : n < 256) (h3 : behind < 256) (w : World) :
    Calls Try.prog 5 #[.int .u8 size, .int .u8 n, .int .u8 behind] w fun e w' => e = .returned (.bool true) ∧ Below w.heap.size w w' := by
  have hs0 := Own.start w
  have hm8 : size % 8 < 8 := Nat.mod_lt _ (by omega)
  go_enter Try.func5, Try.ntmps5
  go_wp2_with fail
  rw [show (1 + (size : Int) % 8) = ((1 + size % 8 : Nat) : Int) by omega]
  obtain ⟨s, hs⟩ : ∃ s, s = 1 + size % 8 := ⟨_, rfl⟩
  have hsb : 1 ≤ s ∧ s ≤ 8 := by omega
  rw [← hs]
  clear hs hm8
  refine (new_any hs0 1 s).mono ?_
  rintro e w1 ⟨gp, rfl, hs1⟩
  rw [show clampN 8 (s : Int) = s by unfold clampN; split <;> (try split) <;> omega] at hs1
  go_wp2_with fail
  go_loopw [9] (fun i wr => KeepsAt w s gp n i wr) (fun i _ => n - (intOf i).toNat)
  case atStart => exact ⟨0, _, rfl, by omega, hs1, put_same _ _ _ _⟩
  case round =>
    obtain ⟨k, γ, rfl, hk, ho, hp⟩ := hrel
    by_cases hlt : k < n
    · obtain ⟨hk1, hk2⟩ := square_small (show k < 256 by omega)
      go_wp2_with fail
      refine (send_any ho hp hsb.1 hsb.2 (by rw [sq_length]; omega) (v := (k : Int) * k)).mono ?_
      rintro e w2 ⟨rfl, ho2⟩
      rw [sq_snoc] at ho2
      go_wp2_with fail
      go_roundw
      case rel => exact ⟨k + 1, _, by go_num, by omega, ho2, put_same _ _ _ _⟩
      case measure => simp [intOf]; omega
    · obtain rfl : k = n := by omega
      clear hs0 hs1
      have hl := sq_length k
      go_wp2_with fail
      refine (recv_any ho hp hsb.1 hsb.2 (by omega) (next := (k : Int) - behind)).mono ?_
      rintro e w2 ⟨rfl, ho2⟩
      by_cases hneg : (k : Int) < behind
      · rw [show rec4 (recvV s (sq k) ((k : Int) - behind)) (recvL s (sq k) ((k : Int) - behind)) (recvA s (sq k) ((k : Int) - behind)) (recvE (sq k) ((k : Int) - behind)) = .returned (.tuple #[.int .i64 0, .int .i64 0, .int .i64 0, .int .i64 1]) by
          unfold recvV recvL recvA recvE rec4
          rw [if_pos (by omega), if_pos (by omega), if_pos (by omega), if_pos (by omega)]]
        clear hl
        go_wp2_with fail
        refine (pumpAwake _).mono ?_
        rintro e w3 ⟨rfl, hb3⟩
        go_wp2_with fail
        go_ret
        exact ⟨rfl, (ho2.below' hb3).below⟩
      · by_cases hz : behind = 0
        · subst hz
          have hl : Hid ((sq k).length = k) := hl
          rw [show ((k : Int) - ((0 : Nat) : Int)) = ((sq k).length : Int) by rw [hl.out]; omega, recv_end_eq, hl.out]
          go_wp2_with fail
          refine (pumpAwake _).mono ?_
          rintro e w3 ⟨rfl, hb3⟩
          go_wp2_with fail
          go_ret
          exact ⟨rfl, (ho2.below' hb3).below⟩
        · obtain ⟨nx, hnx⟩ : ∃ nx : Nat, nx + behind = k := ⟨k - behind, by omega⟩
          have HN : Hid (nx + behind = k) := hnx
          have hl : Hid ((sq k).length = k) := hl
          rw [show (k : Int) - behind = (nx : Int) by omega]
          by_cases hfar : s < behind
          · have hrec := recv_at (s := s) (nx := nx) (k := k - s) (all := sq k) hsb.1 (by omega) (by rw [hl.out]; omega) (by rw [hl.out]; omega) (by rw [hl.out]; omega)
            rw [hrec, sq_get (by omega)]
            clear hrec
            obtain ⟨m, hm⟩ : ∃ m, m = k - s := ⟨_, rfl⟩
            have e1 : (m : Int) - nx = (behind : Int) - s := by omega
            rw [← hm, e1]
            have hmk : m < 256 := by omega
            obtain ⟨q1, q2⟩ := square_small hmk
            have e2 : (m : Int) = (nx : Int) + ((behind : Int) - s) := by omega
            rw [e2] at q1 q2 ⊢
            have q3 : (0 : Int) ≤ (nx : Int) + ((behind : Int) - s) := by omega
            have q4 : (nx : Int) + ((behind : Int) - s) < 256 := by omega
            clear hm e1 hnx e2 hmk
            rw [rec4_eq]
            go_wp2_with fail
            refine (pumpAwake _).mono ?_
            rintro e w3 ⟨rfl, hb3⟩
            go_wp2_with fail
            go_ret
            exact ⟨rfl, (ho2.below' hb3).below⟩
          · have hrec := recv_at (s := s) (nx := nx) (k := nx) (all := sq k) hsb.1 (by omega) (by omega) (by rw [hl.out]; omega) (by rw [hl.out]; omega)
            rw [hrec, sq_get (by omega), Int.sub_self]
            clear hrec
            obtain ⟨q1, q2⟩ := square_small (show nx < 256 by omega)
            obtain ⟨u, hu⟩ : ∃ u, u = (nx : Int) * nx := ⟨_, rfl⟩
            have w1 : wrap64 ((nx : Int) * nx) = u := by rw [hu]; unfold wrap64; omega
            have w2' : IntKind.i64.wrap ((nx : Int) * nx) = u := by rw [IntKind.wrap_i64, hu]; omega
            rw [← hu]
            have q4 : (nx : Int) < 256 := by omega
            have q5 : ¬ (s : Int) < behind := by omega
            clear hnx hu q1 q2
            rw [rec4_eq]
            go_wp2_with fail
            refine (pumpAwake _).mono ?_
            rintro e w3 ⟨rfl, hb3⟩
            go_wp2_with fail
            go_ret
            exact ⟨rfl, (ho2.below' hb3).below⟩

theorem pumpKeeps_walk (a b c : Int) (w : World) (wa : (Lit.int .u8 a).wf = true) (wb : (Lit.int .u8 b).wf = true) (wc : (Lit.int .u8 c).wf = true) :
    Calls Try.prog 5 #[.int .u8 a, .int .u8 b, .int .u8 c] w fun e w' => e = .returned (.bool true) ∧ Below w.heap.size w w' := by
  have ha := bounds_u8 wa
  have hb := bounds_u8 wb
  have hc := bounds_u8 wc
  obtain ⟨x, rfl⟩ : ∃ x : Nat, a = x := ⟨a.toNat, by omega⟩
  obtain ⟨y, rfl⟩ : ∃ x : Nat, b = x := ⟨b.toNat, by omega⟩
  obtain ⟨z, rfl⟩ : ∃ x : Nat, c = x := ⟨c.toNat, by omega⟩
  exact pumpKeeps_nat x y z (by omega) (by omega) (by omega) w
end Go.Proofs.Ytniiefcbiapieaa
