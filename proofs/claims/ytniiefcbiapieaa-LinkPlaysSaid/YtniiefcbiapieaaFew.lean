/- Not too many links. -/
import Derived.Test.YtniiefcbiapieaaPol
namespace Go.Proofs.Ytniiefcbiapieaa
open Go.RowKit Go.Deep Go.WideShapes Go.ChangeMaps

set_option maxRecDepth 100000 in
set_option maxHeartbeats 2000000 in
theorem few_any (D S : Option Addr) (dn dc sn sc : Nat) (A : Option Addr) (len cap : Nat) (w : World) (hlc : len ≤ cap) (hm : len ≤ 9223372036854775807) :
    Calls Try.prog 39 #[.agg #[.slice D dn dc, .slice S sn sc, .slice A len cap]] w fun e w' => e = .returned (.agg #[.slice D dn dc, .slice S sn sc, .slice A (min len 10) cap]) ∧ Below w.heap.size w w' := by
  have hb : ∀ o1 o2, Below w.heap.size w ((w.alloc o1).alloc o2) := fun o1 o2 => ((Below.refl _ _).alloc (Nat.le_refl _) _).alloc (by simp) _
  by_cases hl : len ≤ 10
  · have hmin : min len 10 = len := by omega
    rw [hmin]
    clear hmin
    go_enter Try.func39, Try.ntmps39
    go_wp2_with fail
    refine bodyPost_ret (v := .agg #[.slice D dn dc, .slice S sn sc, .slice A len cap]) (by simp [results, Try.results39, go_sem]) rfl ?_
    exact ⟨rfl, hb _ _⟩
  · have hmin : min len 10 = 10 := by omega
    rw [hmin]
    clear hmin
    go_enter Try.func39, Try.ntmps39
    go_wp2_with fail
    refine bodyPost_ret (v := .agg #[.slice D dn dc, .slice S sn sc, .slice A 10 cap]) (by simp [results, Try.results39, go_sem]) rfl ?_
    exact ⟨rfl, hb _ _⟩
end Go.Proofs.Ytniiefcbiapieaa
