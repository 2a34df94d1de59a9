/- The walk of PumpPlays. -/
import Derived.Test.YtniiefcbiapieaaRefPum
import Derived.Test.YtniiefcbiapieaaPumAwake
import Derived.Test.YtniiefcbiapieaaRead
import Derived.Deep.CutBlock
namespace Go.Proofs.Ytniiefcbiapieaa
open Go.RowKit

/-- Acts of a bool and a number. -/
theorem pairs_of {w : World} {A : Option Addr} {len cap : Nat} (h : RowsIn w A len cap [.bool, .int .i64]) :
    len = 0 ∨ ∃ b off, ∃ f : Nat → Bool × Int, A = some ⟨b, off, none⟩ ∧ len ≤ cap ∧ len ≤ 9223372036854775807 ∧ ∀ i, i < len → w.cell? ⟨b, off + i * 2, none⟩ = some (.bool (f i).1) ∧ w.cell? ⟨b, off + i * 2 + 1, none⟩ = some (.int .i64 (f i).2) := by
  rcases h with ⟨h0, _⟩ | ⟨b, off, hA, hl, hm, hc⟩
  · exact .inl h0
  · right
    obtain ⟨f, hf⟩ := Go.Deep.choose_lt (α := Bool × Int) (n := len) (p := fun i x => w.cell? ⟨b, off + i * 2, none⟩ = some (.bool x.1) ∧ w.cell? ⟨b, off + i * 2 + 1, none⟩ = some (.int .i64 x.2)) (fun i hi => by
      obtain ⟨v0, h0, x, rfl⟩ := hc i (by omega) 0 _ rfl
      obtain ⟨v1, h1, y, rfl, _⟩ := hc i (by omega) 1 _ rfl
      exact ⟨(x, y), by simpa using h0, by simpa [Nat.add_assoc] using h1⟩)
    unfold maxLen at hm
    exact ⟨b, off, f, hA, hl, by omega, hf⟩

/-- How the round begins. -/
def PlaysAt (w : World) (s gp gr len : Nat) (i : Value) (wr : World) : Prop :=
  ∃ (k : Nat) (all : List Int) (γ : Nat → Option (Nat × Obj)), i = .int .i64 k ∧ k ≤ len ∧ k ≤ 100 ∧ all.length ≤ k ∧ Own w wr γ ∧ γ 1 = some (gp, pumpO s all) ∧ RefP γ 2 3 gr s all

set_option maxRecDepth 100000 in
set_option maxHeartbeats 2000000 in
theorem pumpPlays_walk (size : Int) (A : Option Addr) (len cap : Nat) (w : World) (_ : (Lit.int .i64 size).wf = true) (hrows : RowsIn w A len cap [.bool, .int .i64]) :
    Calls Try.prog 3 #[.int .i64 size, .slice A len cap] w fun e w' => e = .returned (.bool true) ∧ Below w.heap.size w w' := by
  have hs0 := Own.start w
  have hb := clamp_bounds (hi := 8) (by omega) size
  have hrows' := pairs_of hrows
  clear hrows
  go_enter Try.func3, Try.ntmps3
  go_wp2_with fail
  refine (new_any hs0 1 size).mono ?_
  rintro e w1 ⟨gp, rfl, hs1⟩
  go_wp2_with fail
  refine (refNew_any hs1 2 3 size).mono ?_
  rintro e w2 ⟨gr, rfl, hs2, hr2⟩
  generalize clampN 8 size = s at *
  go_wp2_with fail
  go_loopw [7] (fun i wr => PlaysAt w s gp gr len i wr) (fun i _ => len - (intOf i).toNat)
  case atStart => exact ⟨0, [], _, rfl, by omega, by omega, by simp, hs2, by rw [put_other _ _ _ (by decide), put_same], hr2⟩
  case round =>
    obtain ⟨k, all, γ, rfl, hk1, hk2, hk3, ho, hp, hr⟩ := hrel
    by_cases hlt : k < len
    · by_cases h100 : k < 100
      · rcases hrows' with h0 | ⟨b, off, f, rfl, hlc, hm, hcell⟩
        · omega
        obtain ⟨hcb, hcv⟩ := hcell k hlt
        rw [← ho.below.cell (World.block_lt_of_cell? w _ hcb)] at hcb
        rw [← ho.below.cell (World.block_lt_of_cell? w _ hcv)] at hcv
        generalize (f k).2 = v at hcv
        clear hcell
        cases hx : (f k).1 with
        | true =>
          rw [hx] at hcb
          have ho1 := ho.new 9 (.cells #[.bool true, .int .i64 v] 28 (0, 0))
          have hp1 : put γ 9 wr.heap.size (.cells #[.bool true, .int .i64 v] 28 (0, 0)) 1 = some (gp, pumpO s all) := by rw [put_other _ _ _ (by decide)]; exact hp
          have hr1 : RefP (put γ 9 wr.heap.size (.cells #[.bool true, .int .i64 v] 28 (0, 0))) 2 3 gr s all := hr.keep (put_other _ _ _ (by decide)) (put_other _ _ _ (by decide))
          have h91 : put γ 9 wr.heap.size (.cells #[.bool true, .int .i64 v] 28 (0, 0)) 9 = some (wr.heap.size, .cells #[.bool true, .int .i64 v] 28 (0, 0)) := put_same _ _ _ _
          have c91 := ho1.cell h91 (i := 1) rfl
          generalize put γ 9 wr.heap.size (.cells #[.bool true, .int .i64 v] 28 (0, 0)) = γ1 at *
          clear ho hp hr hx
          go_wp2_with fail
          have hlen' : all.length ≤ k + 1 := by omega
          refine (recv_any ho1 hp1 hb.1 hb.2 (by omega) (next := v)).mono ?_
          rintro e w5 ⟨rfl, ho5⟩
          have c95 := ho5.cell h91 (i := 1) rfl
          rw [show rec4 (recvV s all v) (recvL s all v) (recvA s all v) (recvE all v) = .returned (.tuple #[.int .i64 (recvV s all v), .int .i64 (recvL s all v), .int .i64 (recvA s all v), .int .i64 (recvE all v)]) from rfl]
          generalize hv1 : recvV s all v = x1
          generalize hv2 : recvL s all v = x2
          generalize hv3 : recvA s all v = x3
          generalize hv4 : recvE all v = x4
          have HV : Hid (rec4 (recvV s all v) (recvL s all v) (recvA s all v) (recvE all v) = .returned (.tuple #[.int .i64 x1, .int .i64 x2, .int .i64 x3, .int .i64 x4])) := by rw [hv1, hv2, hv3, hv4]; rfl
          clear hv1 hv2 hv3 hv4
          go_wp2_with fail
          refine (refRecv_any ho5 hr1 hb.1 hb.2 (by omega) v).mono ?_
          rintro e w6 ⟨rfl, ho6⟩
          rw [HV.out]
          obtain ⟨sv, hg6, hsl6⟩ := id hr1
          obtain ⟨A6, cap6, rfl, _⟩ := hsl6.form
          have d0 : w6.cell? ⟨gr, 0, none⟩ = some (.slice A6 (all).length cap6) := ho6.cell hg6 (i := 0) rfl
          go_wp2_with fail
          go_quiet ((go_at_call 24; exact Calls.quiet_of_same ((total_any (ho6.drewN _) hp1).mono fun e w' ⟨h1, h2⟩ => ⟨h1, h2.symm⟩)))
          go_wp2_with fail
          go_roundw
          case rel => exact ⟨k + 1, all, γ1, by go_num, by omega, by omega, hlen', ho6.drewN _, hp1, hr1⟩
          case measure => simp [intOf]; omega
        | false =>
          rw [hx] at hcb
          have ho1 := ho.new 9 (.cells #[.bool false, .int .i64 v] 28 (0, 0))
          have hp1 : put γ 9 wr.heap.size (.cells #[.bool false, .int .i64 v] 28 (0, 0)) 1 = some (gp, pumpO s all) := by rw [put_other _ _ _ (by decide)]; exact hp
          have hr1 : RefP (put γ 9 wr.heap.size (.cells #[.bool false, .int .i64 v] 28 (0, 0))) 2 3 gr s all := hr.keep (put_other _ _ _ (by decide)) (put_other _ _ _ (by decide))
          have h91 : put γ 9 wr.heap.size (.cells #[.bool false, .int .i64 v] 28 (0, 0)) 9 = some (wr.heap.size, .cells #[.bool false, .int .i64 v] 28 (0, 0)) := put_same _ _ _ _
          have c91 := ho1.cell h91 (i := 1) rfl
          generalize put γ 9 wr.heap.size (.cells #[.bool false, .int .i64 v] 28 (0, 0)) = γ1 at *
          clear ho hp hr hx
          go_wp2_with fail
          refine (refSend_any ho1 hr1 (by decide) (by omega) v).mono ?_
          rintro e w3 ⟨rfl, γ2, ho2, hr2, hk2'⟩
          have hp2 := (hk2' 1 (by decide) (by decide)).trans hp1
          have h92 := (hk2' 9 (by decide) (by decide)).trans h91
          have c92 := ho2.cell h92 (i := 1) rfl
          clear ho1 hp1 hr1 h91 c91 hk2'
          go_wp2_with fail
          refine (send_any ho2 hp2 hb.1 hb.2 (by omega) (v := v)).mono ?_
          rintro e w4 ⟨rfl, ho3⟩
          have hp3 : put γ2 1 gp (pumpO s (all ++ [v])) 1 = some (gp, pumpO s (all ++ [v])) := put_same _ _ _ _
          have hr3 := hr2.keep (γ' := put γ2 1 gp (pumpO s (all ++ [v]))) (put_other _ _ _ (by decide)) (put_other _ _ _ (by decide))
          have h93 := (put_other γ2 (t := 1) gp (pumpO s (all ++ [v])) (k := 9) (by decide)).trans h92
          have c93 := ho3.cell h93 (i := 1) rfl
          generalize put γ2 1 gp (pumpO s (all ++ [v])) = γ3 at *
          have hlen' : (all ++ [v]).length ≤ k + 1 := by simp; omega
          clear ho2 hp2 hr2 h92 c92
          generalize all ++ [v] = all' at *
          go_wp2_with fail
          refine (recv_any ho3 hp3 hb.1 hb.2 (by omega) (next := v)).mono ?_
          rintro e w5 ⟨rfl, ho5⟩
          have c95 := ho5.cell h93 (i := 1) rfl
          rw [show rec4 (recvV s all' v) (recvL s all' v) (recvA s all' v) (recvE all' v) = .returned (.tuple #[.int .i64 (recvV s all' v), .int .i64 (recvL s all' v), .int .i64 (recvA s all' v), .int .i64 (recvE all' v)]) from rfl]
          generalize hv1 : recvV s all' v = x1
          generalize hv2 : recvL s all' v = x2
          generalize hv3 : recvA s all' v = x3
          generalize hv4 : recvE all' v = x4
          have HV : Hid (rec4 (recvV s all' v) (recvL s all' v) (recvA s all' v) (recvE all' v) = .returned (.tuple #[.int .i64 x1, .int .i64 x2, .int .i64 x3, .int .i64 x4])) := by rw [hv1, hv2, hv3, hv4]; rfl
          clear hv1 hv2 hv3 hv4
          go_wp2_with fail
          refine (refRecv_any ho5 hr3 hb.1 hb.2 (by omega) v).mono ?_
          rintro e w6 ⟨rfl, ho6⟩
          rw [HV.out]
          obtain ⟨sv, hg6, hsl6⟩ := id hr3
          obtain ⟨A6, cap6, rfl, _⟩ := hsl6.form
          have d0 : w6.cell? ⟨gr, 0, none⟩ = some (.slice A6 (all').length cap6) := ho6.cell hg6 (i := 0) rfl
          go_wp2_with fail
          go_quiet ((go_at_call 24; exact Calls.quiet_of_same ((total_any (ho6.drewN _) hp3).mono fun e w' ⟨h1, h2⟩ => ⟨h1, h2.symm⟩)))
          go_wp2_with fail
          go_roundw
          case rel => exact ⟨k + 1, all', γ3, by go_num, by omega, by omega, hlen', ho6.drewN _, hp3, hr3⟩
          case measure => simp [intOf]; omega
      · obtain rfl : k = 100 := by omega
        go_wp2_with fail
        refine (pumpAwake _).mono ?_
        rintro e w9 ⟨rfl, hb9⟩
        go_wp2_with fail
        go_ret
        exact ⟨rfl, (ho.below' hb9).below⟩
    · obtain rfl : k = len := by omega
      go_wp2_with fail
      refine (pumpAwake _).mono ?_
      rintro e w9 ⟨rfl, hb9⟩
      go_wp2_with fail
      go_ret
      exact ⟨rfl, (ho.below' hb9).below⟩
end Go.Proofs.Ytniiefcbiapieaa
