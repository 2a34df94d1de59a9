/- The walk of PumpOrder. -/
import Derived.Test.YtniiefcbiapieaaPumpPlaysWalk
namespace Go.Proofs.Ytniiefcbiapieaa
open Go.RowKit

/-- How the round begins: what was sent, how far the reader has come, how many it got, and lost. -/
def OrderAt (w : World) (s gp len : Nat) (sv at_ got lost i : Value) (wr : World) : Prop :=
  ∃ (k n p q : Nat) (all : List Int) (γ : Nat → Option (Nat × Obj)), i = .int .i64 k ∧ at_ = .int .i64 n ∧ got = .int .i64 p ∧ lost = .int .i64 q ∧ k ≤ len ∧ k ≤ 100 ∧ all.length ≤ k ∧ n ≤ all.length ∧ p + q = n ∧
    Own w wr γ ∧ γ 1 = some (gp, pumpO s all) ∧ SliceAt γ 2 3 1 sv all.length (ints all)

theorem recv_mid_eq {s n : Nat} {all : List Int} (h1 : 1 ≤ s) (h : n < all.length) : ∃ m : Nat, n ≤ m ∧ m < all.length ∧
    rec4 (recvV s all n) (recvL s all n) (recvA s all n) (recvE all n) = .returned (.tuple #[.int .i64 (all.getD m 0), .int .i64 ((m : Int) - n), .int .i64 ((m : Int) + 1), .int .i64 0]) := by
  refine ⟨max n (all.length - s), by omega, by omega, ?_⟩
  by_cases e : n < all.length - s
  · have hm : max n (all.length - s) = all.length - s := by omega
    rw [hm]
    exact recv_at h1 (by omega) (by omega) (by omega) (by omega)
  · have hm : max n (all.length - s) = n := by omega
    rw [hm]
    exact recv_at h1 (by omega) (by omega) (by omega) (by omega)
theorem recv_end_eq {s : Nat} {all : List Int} : rec4 (recvV s all all.length) (recvL s all all.length) (recvA s all all.length) (recvE all all.length) = .returned (.tuple #[.int .i64 0, .int .i64 0, .int .i64 all.length, .int .i64 18]) := recv_none

set_option maxRecDepth 100000 in
set_option maxHeartbeats 2000000 in
theorem pumpOrder_walk (size : Int) (A : Option Addr) (len cap : Nat) (w : World) (_ : (Lit.int .i64 size).wf = true) (hrows : RowsIn w A len cap [.bool, .int .i64]) :
    Calls Try.prog 4 #[.int .i64 size, .slice A len cap] w fun e w' => e = .returned (.bool true) ∧ Below w.heap.size w w' := by
  have hs0 := Own.start w
  have hb := clamp_bounds (hi := 8) (by omega) size
  have hrows' := pairs_of hrows
  obtain ⟨i0, hi, hz0, hz1, hz2⟩ := info_parts Try.info3
  clear hrows
  go_enter Try.func4, Try.ntmps4
  go_wp2_with fail
  refine (new_any hs0 1 size).mono ?_
  rintro e w1 ⟨gp, rfl, hs1⟩
  generalize clampN 8 size = s at *
  have hs2 := hs1.new 2 (.cells #[] 3 (0, 0))
  go_wp2_with fail
  go_loopw [6, 7, 8, 9, 10] (fun sv at_ got lost i wr => OrderAt w s gp len sv at_ got lost i wr) (fun _ _ _ _ i _ => len - (intOf i).toNat)
  case atStart =>
    exact ⟨0, 0, 0, 0, [], _, rfl, rfl, rfl, rfl, by omega, by omega, by simp, by simp, rfl, hs2, by rw [put_other _ _ _ (by decide), put_same], ⟨by simp [ints], .inr ⟨_, 0, #[], rfl, put_same _ _ _ _, by simp, by simp, by simp, by simp [ints]⟩⟩⟩
  case round =>
    obtain ⟨k, n, p, q, all, γ, rfl, rfl, rfl, rfl, hk1, hk2, hk3, hn, hpq, ho, hp, hsl⟩ := hrel
    have hbase := ho.below.size
    by_cases hlt : k < len
    · by_cases h100 : k < 100
      · rcases hrows' with h0 | ⟨b, off, f, rfl, hlc, hm, hcell⟩
        · omega
        obtain ⟨hcb, hcv⟩ := hcell k hlt
        generalize (f k).2 = v at hcv
        have hcv0 := hcv
        rw [← ho.below.cell (World.block_lt_of_cell? w _ hcb)] at hcb
        rw [← ho.below.cell (World.block_lt_of_cell? w _ hcv)] at hcv
        clear hcell
        cases hx : (f k).1 with
        | false =>
          rw [hx] at hcb
          obtain ⟨B, cb, rfl, hcb2⟩ := hsl.form
          have hown := hsl.owns ho
          have hAlen : all.length < 1000 := by omega
          have hbw : b < wr.heap.size := World.block_lt_of_cell? wr _ hcv
          clear hx
          go_wp2_with (at_builtin; refine wpList_append_own_at _ rfl (.tmp 34) (.tmp 40) 37 rfl w.heap.size 3 i0 (.int .i64 0) 1 8 Try.underlying37 hi hz0 hz1 hz2 rfl (by decide) _ _ _ rfl (hown.alloc _) ⟨wr.heap.size, 0, none⟩ 1 1 [.int .i64 v] rfl rfl ?c1 ?c2 ?c3 ?c4 ?c5 ?_)
          case c1 => exact cell_one_new _ _ _
          case c2 => intro u hu; simp at hu; subst hu; rfl
          case c3 => unfold maxLen; omega
          case c4 => omega
          case c5 => simp; omega
          intro v' w3 hown1 hgrow hnn hat
          have hs' := ho.below' ((Below.refl wr.heap.size wr).alloc (Nat.le_refl _) (Obj.cells #[Value.int .i64 v] 3))
          obtain ⟨γ1, ho1, hs1, hk1'⟩ := own_append hs' hsl rfl hown1 hgrow (by simpa using hat)
          have hp1 : γ1 1 = some (gp, pumpO s all) := (hk1' 1 (by decide)).trans hp
          have hcv3 : w3.cell? ⟨b, off + k * 2 + 1, none⟩ = some (.int .i64 v) := (ho1.below.cell (World.block_lt_of_cell? w _ hcv0)).trans hcv0
          rw [ints_snoc] at hs1
          have hl : (all ++ [v]).length = all.length + 1 := by simp
          clear hown1 hgrow hnn hat hs' hown hcv hcb
          go_wp2_with fail
          refine (send_any ho1 hp1 hb.1 hb.2 (by omega) (v := v)).mono ?_
          rintro e w4 ⟨rfl, ho3⟩
          have hp3 : put γ1 1 gp (pumpO s (all ++ [v])) 1 = some (gp, pumpO s (all ++ [v])) := put_same _ _ _ _
          have hs3 := hs1.keep (γ' := put γ1 1 gp (pumpO s (all ++ [v]))) (put_other _ _ _ (by decide))
          generalize put γ1 1 gp (pumpO s (all ++ [v])) = γ3 at *
          rw [← hl] at hs3
          obtain ⟨all', hall⟩ : ∃ x, x = all ++ [v] := ⟨_, rfl⟩
          rw [← hall] at hl hs3 hp3
          clear hall
          have HL : Hid (all'.length = all.length + 1) := hl
          clear hl ho1 hp1 hs1 hk1' hcv3
          obtain ⟨A', cap', rfl, _⟩ := hs3.form
          go_wp2_with fail
          go_roundw
          case rel => exact ⟨k + 1, n, p, q, all', γ3, by go_num, rfl, rfl, rfl, by omega, by omega, by rw [HL.out]; omega, by rw [HL.out]; omega, hpq, ho3, hp3, hs3⟩
          case measure => simp [intOf]; omega
        | true =>
          rw [hx] at hcb
          clear hx hcv hcv0
          go_wp2_with fail
          refine (recv_any ho hp hb.1 hb.2 (by omega) (next := (n : Int))).mono ?_
          rintro e w5 ⟨rfl, ho5⟩
          by_cases e1 : n = all.length
          · subst e1
            rw [recv_end_eq]
            obtain ⟨B, cb, rfl, hcb2⟩ := hsl.form
            go_wp2_with fail
            go_roundw
            case rel => exact ⟨k + 1, all.length, p, q, all, γ, by go_num, rfl, rfl, rfl, by omega, by omega, by omega, by omega, hpq, ho5, hp, hsl⟩
            case measure => simp [intOf]; omega
          · obtain ⟨m, hm1, hm2, hrec⟩ := recv_mid_eq (s := s) (n := n) (all := all) hb.1 (by omega)
            rw [hrec]
            clear hrec
            obtain ⟨ga, capx, hA, hcell⟩ := hsl.at_ ho5 hm2
            rw [ints_get _ _ hm2] at hcell
            subst hA
            obtain ⟨u, hu⟩ : ∃ u, u = all.getD m 0 := ⟨_, rfl⟩
            rw [← hu] at hcell ⊢
            clear hu
            have t1 : ((n : Int) + ((m : Int) - n)) = m := by omega
            have t2 : decide ((all.length : Int) < (m : Int) + 1) = false := by simp; omega
            have t3 : decide ((m : Int) - n < 0) = false := by simp; omega
            go_wp2_with fail
            go_roundw
            case rel => exact ⟨k + 1, m + 1, p + 1, q + (m - n), all, γ, by go_num, by go_num, by go_num, congrArg (Value.int .i64) (by omega), by omega, by omega, by omega, by omega, by omega, ho5, hp, hsl⟩
            case measure => simp [intOf]; omega
      · obtain rfl : k = 100 := by omega
        go_wp2_with fail
        refine (pumpAwake _).mono ?_
        rintro e w9 ⟨rfl, hb9⟩
        go_wp2_with fail
        go_ret
        exact ⟨rfl, (ho.below' hb9).below⟩
    · obtain rfl : k = len := by omega
      go_wp2_with fail
      refine (pumpAwake _).mono ?_
      rintro e w9 ⟨rfl, hb9⟩
      go_wp2_with fail
      go_ret
      exact ⟨rfl, (ho.below' hb9).below⟩
end Go.Proofs.Ytniiefcbiapieaa
