/- link.New. -/
import Derived.Test.YtniiefcbiapieaaLinkAt
import Derived.Deep.AppendLies
import Derived.Deep.RegionHeld3
import Derived.LoopTactic
namespace Go.Proofs.Ytniiefcbiapieaa
open Go.RowKit Go.ChangeMaps

theorem run_makeMap105 (w : World) : (Instr.makeMap 105 none).run Try.prog w = .ok (.map (some w.heap.size)) (w.alloc (.map #[] 0)) := by
  simp [Instr.makeMap]

def newNil (w : World) (b : Nat) (e : Ending) (w' : World) : Prop :=
  ∃ gl γ, e = .returned (.pointer (some ⟨gl, 0, none⟩)) ∧ LinksAt w γ b gl [] (fun _ => .tap 1 [] 0) (fun _ _ => none) w'
def NilAt (w : World) (b gl : Nat) (i : Value) (wr : World) : Prop := i = .int .i64 0 ∧ ∃ γ, LinksAt w γ b gl [] (fun _ => .tap 1 [] 0) (fun _ _ => none) wr

set_option maxRecDepth 100000 in
set_option maxHeartbeats 2000000 in
theorem linkNew_nil (b : Nat) (dv sv : Value) (w : World) :
    Calls Try.prog 40 #[.agg #[dv, sv, .slice none 0 0]] w (newNil w b) := by
  go_enter Try.func40, Try.ntmps40
  go_wp2_with fail
  have hs := (Own.start w).new (b + 4) (.cells #[dv, sv, .slice none 0 0] 68)
  refine (clone_nil hs (b + 2)).mono ?_
  rintro e w1 ⟨v, γ1, rfl, ho, hsl, hk⟩
  obtain ⟨A1, cap1, rfl, hcap1⟩ := hsl.form
  have ho2 := (ho.new (b + 1) (.map #[] 0)).new b (.cells #[.slice A1 0 cap1, .slice none 0 0, .map (some w1.heap.size)] 108)
  have e2 : (w1.alloc (.map #[] 0)).heap.size = w1.heap.size + 1 := by simp
  rw [e2] at ho2
  have hL : LinksAt w (put (put γ1 (b + 1) w1.heap.size (.map #[] 0)) b (w1.heap.size + 1) (.cells #[.slice A1 0 cap1, .slice none 0 0, .map (some w1.heap.size)] 108)) b (w1.heap.size + 1) [] (fun _ => .tap 1 [] 0) (fun _ _ => none) ((w1.alloc (.map #[] 0)).alloc (.cells #[.slice A1 0 cap1, .slice none 0 0, .map (some w1.heap.size)] 108)) := by
    refine ⟨ho2, .slice A1 0 cap1, .slice none 0 0, w1.heap.size, #[], 0, [], put_same _ _ _ _, ?_, MapFn.nil, ?_, SliceAt.nil _ _ _ _, fun i l h => by simp at h⟩
    · rw [put_other _ _ _ (by omega), put_same]
    · exact hsl.keep (by rw [put_other _ _ _ (by omega), put_other _ _ _ (by omega)])
  have hbx : (put γ1 (b + 1) w1.heap.size (.map #[] 0)) (b + 4) = some (w.heap.size, .cells #[dv, sv, .slice none 0 0] 68 (0, 0)) := by rw [put_other _ _ _ (by omega), hk _ (by omega), put_same]
  have hc2 := (ho.new (b + 1) (.map #[] 0)).cell hbx (i := 2) (v := .slice none 0 0) rfl
  have hc3 := ho2.cell ((put_other _ _ _ (by omega)).trans hbx) (i := 2) (v := .slice none 0 0) rfl
  generalize put (put γ1 (b + 1) w1.heap.size (.map #[] 0)) b (w1.heap.size + 1) (.cells #[.slice A1 0 cap1, .slice none 0 0, .map (some w1.heap.size)] 108) = γ2 at *
  have hmk := run_makeMap105 w1
  clear hs ho hsl hk ho2 hbx
  go_wp2_with fail
  go_loopw [15] (fun i wr => NilAt w b (w1.heap.size + 1) i wr) (fun i _ => 0)
  case atStart => exact ⟨rfl, _, hL⟩
  case round =>
    obtain ⟨rfl, γ3, hL3⟩ := hrel
    go_wp2_with fail
    go_ret
    exact ⟨_, γ3, rfl, hL3⟩
end Go.Proofs.Ytniiefcbiapieaa
