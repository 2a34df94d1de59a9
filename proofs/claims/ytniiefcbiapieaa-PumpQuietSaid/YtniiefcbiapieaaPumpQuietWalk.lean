/- The walk of PumpQuiet. -/
import Derived.Test.YtniiefcbiapieaaPumpOrderWalk
namespace Go.Proofs.Ytniiefcbiapieaa
open Go.RowKit

/-- A slice of numbers that came in. -/
theorem nums_of {w : World} {A : Option Addr} {len cap : Nat} (h : RowsIn w A len cap [.int .i64]) :
    len = 0 ∨ ∃ b off, ∃ f : Nat → Int, A = some ⟨b, off, none⟩ ∧ len ≤ cap ∧ len ≤ 9223372036854775807 ∧ ∀ i, i < len → w.cell? ⟨b, off + i, none⟩ = some (.int .i64 (f i)) := by
  rcases h with ⟨h0, _⟩ | ⟨b, off, hA, hl, hm, hc⟩
  · exact .inl h0
  · right
    obtain ⟨f, hf⟩ := Go.Deep.choose_lt (α := Int) (n := len) (p := fun i x => w.cell? ⟨b, off + i, none⟩ = some (.int .i64 x)) (fun i hi => by
      obtain ⟨v0, h0, x, rfl, _⟩ := hc i (by omega) 0 _ rfl
      exact ⟨x, by simpa using h0⟩)
    unfold maxLen at hm
    exact ⟨b, off, f, hA, hl, by omega, hf⟩

def QuietAt (w : World) (s g1 g2 len : Nat) (i : Value) (wr : World) : Prop :=
  ∃ (k : Nat) (all : List Int) (γ : Nat → Option (Nat × Obj)), i = .int .i64 k ∧ k ≤ len ∧ k ≤ 40 ∧ all.length ≤ k ∧ Own w wr γ ∧ γ 1 = some (g1, pumpO s all) ∧ γ 2 = some (g2, pumpO s all)

set_option maxRecDepth 100000 in
set_option maxHeartbeats 2000000 in
theorem pumpQuiet_walk (size : Int) (A : Option Addr) (len cap : Nat) (A2 : Option Addr) (len2 cap2 : Nat) (next : Int) (w : World) (_ : (Lit.int .i64 size).wf = true) (hrows : RowsIn w A len cap [.int .i64])
    (hrows2 : RowsIn w A2 len2 cap2 [.int .i64]) (_ : (Lit.int .i64 next).wf = true) :
    Calls Try.prog 6 #[.int .i64 size, .slice A len cap, .slice A2 len2 cap2, .int .i64 next] w fun e w' => e = .returned (.bool true) ∧ Below w.heap.size w w' := by
  have hs0 := Own.start w
  have hb := clamp_bounds (hi := 8) (by omega) size
  have hr1 := nums_of hrows
  have hr2 := nums_of hrows2
  clear hrows hrows2
  go_enter Try.func6, Try.ntmps6
  go_wp2_with fail
  refine (new_any hs0 1 size).mono ?_
  rintro e w1 ⟨g1, rfl, hs1⟩
  go_wp2_with fail
  refine (new_any hs1 2 size).mono ?_
  rintro e w2 ⟨g2, rfl, hs2⟩
  generalize clampN 8 size = s at *
  go_wp2_with fail
  go_loopw [11] (fun i wr => QuietAt w s g1 g2 len i wr) (fun i _ => len - (intOf i).toNat)
  case atStart => exact ⟨0, [], _, rfl, by omega, by omega, by simp, hs2, by rw [put_other _ _ _ (by decide), put_same], put_same _ _ _ _⟩
  case round =>
    obtain ⟨k, all, γ, rfl, hk1, hk2, hk3, ho, hp1, hp2⟩ := hrel
    by_cases hin : k < len ∧ k < 40
    · obtain ⟨hlt, h40⟩ := hin
      rcases hr1 with h0 | ⟨b, off, f, rfl, hlc, hm, hcell⟩
      · omega
      have hc := hcell k hlt
      clear hcell
      generalize f k = v at hc
      have hc1 := (ho.below.cell (World.block_lt_of_cell? w _ hc)).trans hc
      go_wp2_with fail
      refine (send_any ho hp1 hb.1 hb.2 (by omega) (v := v)).mono ?_
      rintro e w3 ⟨rfl, ho3⟩
      have hp23 := (put_other γ (t := 1) g1 (pumpO s (all ++ [v])) (k := 2) (by decide)).trans hp2
      have hp13 := put_same γ 1 g1 (pumpO s (all ++ [v]))
      have hc3 := (ho3.below.cell (World.block_lt_of_cell? w _ hc)).trans hc
      clear hc1
      go_wp2_with fail
      refine (send_any ho3 hp23 hb.1 hb.2 (by omega) (v := v)).mono ?_
      rintro e w4 ⟨rfl, ho4⟩
      have hp14 := (put_other (put γ 1 g1 (pumpO s (all ++ [v]))) (t := 2) g2 (pumpO s (all ++ [v])) (k := 1) (by decide)).trans hp13
      have hp24 := put_same (put γ 1 g1 (pumpO s (all ++ [v]))) 2 g2 (pumpO s (all ++ [v]))
      generalize put (put γ 1 g1 (pumpO s (all ++ [v]))) 2 g2 (pumpO s (all ++ [v])) = γ4 at *
      have hl : (all ++ [v]).length ≤ k + 1 := by simp; omega
      generalize all ++ [v] = all' at *
      clear hc3 ho3 hp13 hp23
      by_cases hrd : k < len2
      · rcases hr2 with h0 | ⟨b2, off2, f2, rfl, hlc2, hm2, hcell2⟩
        · omega
        have hd := hcell2 k hrd
        clear hcell2
        generalize f2 k = x at hd
        have hd4 := (ho4.below.cell (World.block_lt_of_cell? w _ hd)).trans hd
        go_wp2_with fail
        refine (recv_any ho4 hp14 hb.1 hb.2 (by omega) (next := x)).mono ?_
        rintro e w5 ⟨rfl, ho5⟩
        rw [rec4_eq]
        go_wp2_with fail
        go_roundw
        case rel => exact ⟨k + 1, all', γ4, by go_num, by omega, by omega, hl, ho5, hp14, hp24⟩
        case measure => simp [intOf]; omega
      · go_wp2_with fail
        go_roundw
        case rel => exact ⟨k + 1, all', γ4, by go_num, by omega, by omega, hl, ho4, hp14, hp24⟩
        case measure => simp [intOf]; omega
    · have hout : ¬ k < len ∨ (k < len ∧ ¬ k < 40) := by omega
      clear hin
      rcases hout with hout | ⟨hout, hout2⟩
      all_goals
        go_wp2_with fail
        refine (recv_any ho hp1 hb.1 hb.2 (by omega) (next := next)).mono ?_
        rintro e w5 ⟨rfl, ho5⟩
        rw [rec4_eq]
        go_wp2_with fail
        refine (recv_any ho5 hp2 hb.1 hb.2 (by omega) (next := next)).mono ?_
        rintro e w6 ⟨rfl, ho6⟩
        rw [rec4_eq]
        generalize recvV s all next = x1
        generalize recvL s all next = x2
        generalize recvA s all next = x3
        generalize recvE all next = x4
        go_wp2_with fail
        refine (pumpAwake _).mono ?_
        rintro e w7 ⟨rfl, hb7⟩
        have ho7 := ho6.below' hb7
        go_wp2_with fail
        refine (total_any ho7 hp1).mono ?_
        rintro e w8 ⟨rfl, rfl⟩
        go_wp2_with fail
        refine (total_any ho7 hp2).mono ?_
        rintro e w8 ⟨rfl, rfl⟩
        go_wp2_with fail
        go_ret
        exact ⟨rfl, ho7.below⟩
end Go.Proofs.Ytniiefcbiapieaa
