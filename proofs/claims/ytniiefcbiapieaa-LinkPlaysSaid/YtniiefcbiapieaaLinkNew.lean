/- The links of a policy are made. -/
import Derived.Test.YtniiefcbiapieaaLink
namespace Go.Proofs.Ytniiefcbiapieaa
open Go.RowKit Go.ChangeMaps

theorem Try.info78 : (Try.prog.info? 78).map (fun i => (i.zero, i.size, i.bytes)) = some (some (.agg #[.int .i64 0, .int .i64 0, .int .i64 0, .int .i64 0]), 4, 32) := by kernel_rfl

theorem eq66_nil (w : World) : (binOp .eql 66 (.slice none 0 0) (.slice none 0 0)).run Try.prog w = .ok (.bool true) w := by kernel_rfl
theorem eq66_some (a : Addr) (n cap : Nat) (w : World) : (binOp .eql 66 (.slice (some a) n cap) (.slice none 0 0)).run Try.prog w = .ok (.bool false) w := by kernel_rfl

def cloned (w0 : World) (γ : Nat → Option (Nat × Obj)) (t n : Nat) (news : List Value) (e : Ending) (w' : World) : Prop :=
  ∃ v γ', e = .returned v ∧ Own w0 w' γ' ∧ SliceAt γ' t 78 4 v n news ∧ ∀ k, k ≠ t → γ' k = γ k

set_option maxRecDepth 20000 in
theorem clone_nil {w0 w : World} {γ : Nat → Option (Nat × Obj)} (hs : Own w0 w γ) (t : Nat) : Calls Try.prog 57 #[.slice none 0 0] w (cloned w0 γ t 0 []) := by
  have hbin := eq66_nil w
  have hfin : cloned w0 γ t 0 [] (.returned (.slice none 0 0)) w := ⟨_, γ, rfl, hs, SliceAt.nil _ _ _ _, fun _ _ => rfl⟩
  go_enter Try.func57, Try.ntmps57
  go_wp2_with fail
  go_ret
  exact hfin

set_option maxHeartbeats 1000000 in
set_option maxRecDepth 20000 in
theorem clone_some {w0 w : World} {γ : Nat → Option (Nat × Obj)} (hs : Own w0 w γ) (t : Nat) {b off n cap : Nat} {news : List Value} (hl : news.length = n * 4) (hn : n ≤ 1000)
    (hread : ∀ (j : Nat) (u : Value), news[j]? = some u → w.cell? ((⟨b, off, none⟩ : Addr).add j) = some u) (hone : ∀ u ∈ news, u.oneCell' = true) :
    Calls Try.prog 57 #[.slice (some ⟨b, off, none⟩) n cap] w (cloned w0 γ t n news) := by
  obtain ⟨i0, hi, hz0, hz1, hz2⟩ := info_parts Try.info78
  have ho1 := hs.new t (.cells #[] 78)
  have hbase := hs.below.size
  have hs1 : SliceAt (put γ t w.heap.size (.cells #[] 78)) t 78 4 (.slice (some ⟨w.heap.size, 0, none⟩) 0 0) 0 [] := ⟨rfl, .inr ⟨_, 0, _, rfl, put_same _ _ _ _, Nat.le_refl _, by omega, rfl, rfl⟩⟩
  have hown := hs1.owns ho1
  have hcc : ∀ (j : Nat) (u : Value), news[j]? = some u → (w.alloc (.cells #[] 78)).cell? ((⟨b, off, none⟩ : Addr).add j) = some u := fun j u hj =>
    (((Below.refl w.heap.size w).alloc (Nat.le_refl _) (Obj.cells #[] 78)).cell (World.block_lt_of_cell? w _ (hread j u hj))).trans (hread j u hj)
  have hbin := eq66_some ⟨b, off, none⟩ n cap w
  clear hread
  go_enter Try.func57, Try.ntmps57
  go_wp2_with (at_builtin; refine wpList_append_own_at _ rfl (.tmp 5) (.tmp 6) 66 rfl w0.heap.size 78 i0 (.agg #[.int .i64 0, .int .i64 0, .int .i64 0, .int .i64 0]) 4 32 Try.underlying66 hi hz0 hz1 hz2 rfl (by decide) _ _ _ rfl hown ⟨b, off, none⟩ n cap news rfl hl hcc hone ?k4 ?k5 ?k6 ?_)
  case k4 => unfold maxLen; omega
  case k5 => omega
  case k6 => simp; omega
  intro v' w2 hown1 hgrow hnn hat
  have hown2 : w2.ownsRow w0.heap.size 78 4 v' (0 + n) ([] ++ news) := by rw [Nat.zero_add, List.nil_append]; exact hown1
  obtain ⟨γ1, ho2, hs2, hk2⟩ := own_append ho1 hs1 rfl hown2 hgrow (by simpa using hat)
  rw [Nat.zero_add, List.nil_append] at hs2
  have hfin : cloned w0 γ t n news (.returned v') w2 := ⟨v', γ1, rfl, ho2, hs2, fun k hk => by rw [hk2 k hk, put_other _ _ _ hk]⟩
  clear hown1 hown2 hgrow hnn hat hown hs1 hcc ho1 hk2 hs2 ho2
  go_wp2_with fail
  go_ret
  exact hfin

def policied (w0 : World) (γ : Nat → Option (Nat × Obj)) (t : Nat) (kind size : Int) (e : Ending) (w' : World) : Prop :=
  ∃ g, e = .returned (.agg #[.slice none 0 0, .slice none 0 0, .slice (some ⟨g, 0, none⟩) 1 1]) ∧ Own w0 w' (put γ t g (.cells #[.int .i64 kind, .int .i64 0, .int .i64 1, .int .i64 size] 78 (0, 0)))

set_option maxHeartbeats 1000000 in
set_option maxRecDepth 20000 in
theorem policy_any {w0 w : World} {γ : Nat → Option (Nat × Obj)} (hs : Own w0 w γ) (t : Nat) (kind size : Int) : Calls Try.prog 43 #[.int .i64 kind, .int .i64 size] w (policied w0 γ t kind size) := by
  go_enter Try.func43, Try.ntmps43
  go_wp2_with fail
  refine bodyPost_ret (v := .agg #[.slice none 0 0, .slice none 0 0, .slice (some ⟨w.heap.size + 1, 0, none⟩) 1 1]) (by simp [results, Try.results43, go_sem]) rfl ?_
  have h1 := (hs.new t (.cells #[.slice none 0 0, .slice none 0 0, .slice (some ⟨w.heap.size + 1, 0, none⟩) 1 1] 68)).new t (.cells #[.int .i64 kind, .int .i64 0, .int .i64 1, .int .i64 size] 78)
  rw [put_put] at h1
  have e2 : (w.alloc (.cells #[.slice none 0 0, .slice none 0 0, .slice (some ⟨w.heap.size + 1, 0, none⟩) 1 1] 68)).heap.size = w.heap.size + 1 := by simp
  rw [e2] at h1
  exact ⟨_, rfl, h1⟩
end Go.Proofs.Ytniiefcbiapieaa
