/- The reference's pump: contracts over named objects. -/
import Derived.Test.YtniiefcbiapieaaPum
import Derived.Test.YtniiefcbiapieaaSlc
import Derived.LoopTactic
namespace Go.Proofs.Ytniiefcbiapieaa
open Go.RowKit

theorem Try.info3 : (Try.prog.info? 3).map (fun i => (i.zero, i.size, i.bytes)) = some (some (.int .i64 0), 1, 8) := by kernel_rfl

/-- The reference's pump: a struct (object tr), and the slice of all that was sent (object ta). -/
def RefP (γ : Nat → Option (Nat × Obj)) (tr ta g s : Nat) (all : List Int) : Prop :=
  ∃ sv, γ tr = some (g, .cells #[sv, .int .i64 s] 39 (0, 0)) ∧ SliceAt γ ta 3 1 sv all.length (ints all)

theorem RefP.keep {γ γ' : Nat → Option (Nat × Obj)} {tr ta g s : Nat} {all : List Int} (h : RefP γ tr ta g s all) (h1 : γ' tr = γ tr) (h2 : γ' ta = γ ta) : RefP γ' tr ta g s all := by
  obtain ⟨sv, h3, h4⟩ := h
  exact ⟨sv, by rw [h1]; exact h3, h4.keep h2⟩

theorem refNew_any {w0 w : World} {γ : Nat → Option (Nat × Obj)} (hs : Own w0 w γ) (tr ta : Nat) (size : Int) :
    Calls Try.prog 19 #[.int .i64 size] w fun e w' => ∃ g, e = .returned (.pointer (some ⟨g, 0, none⟩)) ∧ Own w0 w' (put γ tr g (.cells #[.slice none 0 0, .int .i64 (clampN 8 size)] 39 (0, 0))) ∧
      RefP (put γ tr g (.cells #[.slice none 0 0, .int .i64 (clampN 8 size)] 39 (0, 0))) tr ta g (clampN 8 size) [] := by
  have fin : ∀ k : Nat, clampN 8 size = k → (∃ g, Ending.returned (.pointer (some ⟨w.heap.size, 0, none⟩)) = Ending.returned (.pointer (some ⟨g, 0, none⟩)) ∧
      Own w0 (w.alloc (.cells #[.slice none 0 0, .int .i64 k] 39)) (put γ tr g (.cells #[.slice none 0 0, .int .i64 (clampN 8 size)] 39 (0, 0))) ∧
      RefP (put γ tr g (.cells #[.slice none 0 0, .int .i64 (clampN 8 size)] 39 (0, 0))) tr ta g (clampN 8 size) []) := by
    intro k hk
    subst hk
    exact ⟨_, rfl, hs.new _ _, ⟨_, put_same _ _ _ _, SliceAt.nil _ _ _ _⟩⟩
  by_cases a1 : size < 1
  · have hk := fin 1 (by unfold clampN; split <;> (try split) <;> omega)
    go_enter Try.func19, Try.ntmps19
    go_wp2
    all_goals go_ret
    all_goals exact hk
  · by_cases a8 : 8 < size
    · have hk := fin 8 (by unfold clampN; rw [if_neg (by omega), if_pos (by omega)])
      go_enter Try.func19, Try.ntmps19
      go_wp2
      all_goals go_ret
      all_goals exact hk
    · obtain ⟨k, rfl⟩ : ∃ k : Nat, size = k := ⟨size.toNat, by omega⟩
      have hk := fin k (by unfold clampN; rw [if_neg (by omega), if_neg (by omega)]; omega)
      go_enter Try.func19, Try.ntmps19
      go_wp2
      all_goals go_ret
      all_goals exact hk

set_option maxHeartbeats 1000000 in
theorem refSend_any {w0 w : World} {γ : Nat → Option (Nat × Obj)} (hs : Own w0 w γ) {tr ta g s : Nat} {all : List Int} (hr : RefP γ tr ta g s all) (hne : tr ≠ ta) (hlen : all.length < 1000000) (v : Int) :
    Calls Try.prog 20 #[.pointer (some ⟨g, 0, none⟩), .int .i64 v] w fun e w' => e = .returned (.tuple #[]) ∧ ∃ γ', Own w0 w' γ' ∧ RefP γ' tr ta g s (all ++ [v]) ∧ ∀ k, k ≠ tr → k ≠ ta → γ' k = γ k := by
  obtain ⟨sv, hg, hsl⟩ := hr
  obtain ⟨i0, hi, hz0, hz1, hz2⟩ := info_parts Try.info3
  have c0 := hs.cell hg (i := 0) rfl
  have f0 := hs.free hg 0
  obtain ⟨A, cap, rfl, hcap⟩ := hsl.form
  have hbase := hs.below.size
  have hown := hsl.owns hs
  go_enter Try.func20, Try.ntmps20
  go_wp2_with (at_builtin; refine wpList_append_own_at _ rfl (.tmp 8) (.tmp 10) 37 rfl w0.heap.size 3 i0 (.int .i64 0) 1 8 Try.underlying37 hi hz0 hz1 hz2 rfl (by decide) _ _ _ rfl (hown.alloc _) ⟨w.heap.size, 0, none⟩ 1 1 [.int .i64 v] rfl rfl ?c1 ?c2 ?c3 ?c4 ?c5 ?_)
  case c1 => exact cell_one_new _ _ _
  case c2 => intro u hu; simp at hu; subst hu; rfl
  case c3 => unfold maxLen; omega
  case c4 => omega
  case c5 => simp; omega
  intro v' w1 hown1 hgrow hnn hat
  have hs' := hs.below' ((Below.refl w.heap.size w).alloc (Nat.le_refl _) (Obj.cells #[Value.int .i64 v] 3))
  obtain ⟨γ1, ho1, hs1, hk1⟩ := own_append hs' hsl rfl hown1 hgrow (by simpa using hat)
  obtain ⟨A', cap', rfl, _⟩ := hs1.form
  have hg1 : γ1 tr = some (g, _) := (hk1 tr hne).trans hg
  have d0 := ho1.cell hg1 (i := 0) rfl
  have e0 := ho1.free hg1 0
  have hfin := ho1.set hg1 0 (Value.slice A' (all.length + 1) cap')
  clear hown1 hgrow hnn hat hs' c0 f0 hown
  go_wp2
  go_end0
  refine ⟨rfl, _, hfin, ⟨_, put_same _ _ _ _, ?_⟩, fun k h1 h2 => by rw [put_other _ _ _ h1]; exact hk1 k h2⟩
  have hl : (all ++ [v]).length = all.length + 1 := by simp
  rw [hl, ← ints_snoc]
  exact hs1.keep (put_other _ _ _ (Ne.symm hne))

theorem refRecv_low {w0 w : World} {γ : Nat → Option (Nat × Obj)} (hs : Own w0 w γ) {tr ta g s : Nat} {all : List Int} (hr : RefP γ tr ta g s all) {next : Int} (h : next < 0) :
    Calls Try.prog 23 #[.pointer (some ⟨g, 0, none⟩), .int .i64 next] w fun e w' => e = rec4 0 0 0 1 ∧ Below w.heap.size w w' := by
  have hd : decide (next < 0) = true := by simpa using h
  go_enter Try.func23, Try.ntmps23
  go_wp2
  (try simp only [Exit.inBlock, Exit.then]); refine bodyPost_ret (results_tmp4 rfl _ _ _) rfl ?_
  exact ⟨rfl, Below.refl _ _⟩

theorem refRecv_high {w0 w : World} {γ : Nat → Option (Nat × Obj)} (hs : Own w0 w γ) {tr ta g s : Nat} {all : List Int} (hr : RefP γ tr ta g s all) {next : Int} (h0 : 0 ≤ next) (h : all.length < next) :
    Calls Try.prog 23 #[.pointer (some ⟨g, 0, none⟩), .int .i64 next] w fun e w' => e = rec4 0 0 0 1 ∧ Below w.heap.size w w' := by
  have hd : decide (next < 0) = false := by simpa using h0
  obtain ⟨sv, hg, hsl⟩ := hr
  obtain ⟨A, cap, rfl, hcap⟩ := hsl.form
  have c0 : w.cell? ⟨g, 0, none⟩ = some (.slice A all.length cap) := hs.cell hg (i := 0) rfl
  go_enter Try.func23, Try.ntmps23
  go_wp2
  (try simp only [Exit.inBlock, Exit.then]); refine bodyPost_ret (results_tmp4 rfl _ _ _) rfl ?_
  exact ⟨rfl, Below.refl _ _⟩

theorem recv_at {s nx k : Nat} {all : List Int} (h1 : 1 ≤ s) (hk1 : nx ≤ k) (hk2 : nx < k → k + s ≤ all.length) (hlt : k < all.length) (hin : all.length ≤ k + s) :
    rec4 (recvV s all nx) (recvL s all nx) (recvA s all nx) (recvE all nx) = rec4 (all.getD k 0) ((k : Int) - nx) ((k : Int) + 1) 0 := by
  have hm : max (nx : Int) ((all.length : Int) - s) = k := by
    by_cases e : nx = k
    · omega
    · have := hk2 (by omega); omega
  unfold recvV recvL recvA recvE
  rw [if_neg (by omega), if_neg (by omega), if_neg (by omega), if_neg (by omega), if_neg (by omega), if_neg (by omega), hm, Int.toNat_natCast]
theorem recv_none {s : Nat} {all : List Int} : rec4 (recvV s all all.length) (recvL s all all.length) (recvA s all all.length) (recvE all all.length) = rec4 0 0 all.length 18 := by
  have a : ¬ ((all.length : Int) < 0) := by omega
  simp [recvV, recvL, recvA, recvE, a]

set_option maxHeartbeats 1000000 in
theorem refRecv_mid {w0 w : World} {γ : Nat → Option (Nat × Obj)} (hs : Own w0 w γ) {tr ta g s : Nat} {all : List Int} (hr : RefP γ tr ta g s all) (h1 : 1 ≤ s) (h8 : s ≤ 8) (hlen : all.length < 1000000) {nx : Nat} (h : nx ≤ all.length) :
    Calls Try.prog 23 #[.pointer (some ⟨g, 0, none⟩), .int .i64 nx] w fun e w' => e = rec4 (recvV s all nx) (recvL s all nx) (recvA s all nx) (recvE all nx) ∧ Own w0 w' γ := by
  have hd : decide ((nx : Int) < 0) = false := by simp
  have hd2 : decide ((all.length : Int) < nx) = false := by simp; omega
  obtain ⟨sv, hg, hsl⟩ := hr
  obtain ⟨A, cap, rfl, hcap⟩ := hsl.form
  have c0 : w.cell? ⟨g, 0, none⟩ = some (.slice A all.length cap) := hs.cell hg (i := 0) rfl
  go_enter Try.func23, Try.ntmps23
  go_wp2
  go_loopw [8] (fun i wr => ∃ k : Nat, i = .int .i64 k ∧ nx ≤ k ∧ (nx < k → k + s ≤ all.length) ∧ k ≤ all.length ∧ Own w0 wr γ) (fun i _ => all.length - (intOf i).toNat)
  case atStart => exact ⟨nx, rfl, Nat.le_refl _, fun h => absurd h (Nat.lt_irrefl _), h, hs⟩
  case round =>
    obtain ⟨k, rfl, hk1, hk2, hk3, ho⟩ := hrel
    have c0 : wr.cell? ⟨g, 0, none⟩ = some (.slice A all.length cap) := ho.cell hg (i := 0) rfl
    have c1 : wr.cell? ⟨g, 1, none⟩ = some (.int .i64 s) := ho.cell hg (i := 1) rfl
    by_cases hlt : k < all.length
    · obtain ⟨ga, cap', hA, hcell⟩ := hsl.at_ ho hlt
      cases hA
      rw [ints_get _ _ hlt] at hcell
      by_cases hin : all.length ≤ k + s
      · have hdd : decide ((all.length : Int) ≤ (k : Int) + s) = true := by simp; omega
        have hfin : Hid (rec4 (recvV s all nx) (recvL s all nx) (recvA s all nx) (recvE all nx) = rec4 (all.getD k 0) ((k : Int) - nx) ((k : Int) + 1) 0) := recv_at h1 hk1 hk2 hlt hin
        obtain ⟨u, hu⟩ : ∃ u, u = all.getD k 0 := ⟨_, rfl⟩
        rw [← hu] at hcell
        have hu' : Hid (u = all.getD k 0) := hu
        clear hu
        go_wp2
        go_quiet (fail)
        go_wp2
        (try simp only [Exit.inBlock, Exit.then]); refine bodyPost_ret (results_tmp4 rfl _ _ _) rfl ?_
        exact ⟨by rw [hfin.out, ← hu'.out]; rfl, ho.drewN _⟩
      · have hdd : decide ((all.length : Int) ≤ (k : Int) + s) = false := by simp; omega
        clear hcell
        go_wp2
        go_quiet (fail)
        go_wp2
        go_roundw
        case rel => exact ⟨k + 1, by go_num, by omega, fun _ => by omega, by omega, ho.drewN _⟩
        case measure => simp [intOf]; omega
    · obtain rfl : k = all.length := by omega
      by_cases e : nx = all.length
      · subst e
        have hfin : Hid (rec4 (recvV s all all.length) (recvL s all all.length) (recvA s all all.length) (recvE all all.length) = rec4 0 0 all.length 18) := recv_none
        go_wp2
        (try simp only [Exit.inBlock, Exit.then]); refine bodyPost_ret (results_tmp4 rfl _ _ _) rfl ?_
        exact ⟨by rw [hfin.out]; rfl, ho⟩
      · have := hk2 (by omega)
        omega

theorem refRecv_any {w0 w : World} {γ : Nat → Option (Nat × Obj)} (hs : Own w0 w γ) {tr ta g s : Nat} {all : List Int} (hr : RefP γ tr ta g s all) (h1 : 1 ≤ s) (h8 : s ≤ 8) (hlen : all.length < 1000000) (next : Int) :
    Calls Try.prog 23 #[.pointer (some ⟨g, 0, none⟩), .int .i64 next] w fun e w' => e = rec4 (recvV s all next) (recvL s all next) (recvA s all next) (recvE all next) ∧ Own w0 w' γ := by
  by_cases c1 : next < 0
  · refine (refRecv_low hs hr c1).mono fun e w' ⟨he, hb⟩ => ⟨?_, hs.below' hb⟩
    rw [he]; unfold recvV recvL recvA recvE
    rw [if_pos (by omega), if_pos (by omega), if_pos (by omega), if_pos (by omega)]
  · by_cases c2 : (all.length : Int) < next
    · refine (refRecv_high hs hr (by omega) c2).mono fun e w' ⟨he, hb⟩ => ⟨?_, hs.below' hb⟩
      rw [he]; unfold recvV recvL recvA recvE
      rw [if_pos (by omega), if_pos (by omega), if_pos (by omega), if_pos (by omega)]
    · obtain ⟨nx, rfl⟩ : ∃ nx : Nat, next = nx := ⟨next.toNat, by omega⟩
      exact refRecv_mid hs hr h1 h8 hlen (by omega)
end Go.Proofs.Ytniiefcbiapieaa
