/- A struct of whole numbers and bools, handed in by itself. -/
import Derived.Test.YtniiefcbiapieaaRead
import Derived.Lib.SmallJoins
namespace Go.Proofs.Ytniiefcbiapieaa
open Go.RowKit Go.Deep Go.WideShapes Go.Joins

theorem open_flat {H : Type} {enc : TypeId × Value → H} {P : Program} {w : World} {r : Reach} {b0 : Nat} {t : TypeId} {fs : Array Field} {v : Value} {d : DataW H} {ps : List MemPlace} (f : Nat) (ks : List CK) (hs : P.underlying t = some (.struct fs)) (hfl : flat P f t = some ks) (hn : P.cellsOf t = ks.length)
    (hv : Value.okWide P w r b0 t v) (h : DataW.Trod enc P w 0 (fun _ => true) true t v d ps) : ∃ cs : List Value, v = .agg cs.toArray ∧ cs.length = ks.length ∧ Fit ks cs := by
  obtain ⟨cs, rfl, hsz⟩ := okWide_struct hs hv
  obtain ⟨fuel, hf⟩ := h
  have := flat_fits f t ks _ fuel _ hfl hf
  exact ⟨cs.toList, by simp, by simpa [hn] using hsz, by simpa [Value.cells] using this⟩

/-- What to do, a task, a word, a value. -/
theorem act_of {cs : List Value} (hl : cs.length = 4) (h : Fit [.int .u8, .int .i64, .int .i64, .int .i64] cs) : ∃ (d : Nat) (t i v : Int), cs = [.int .u8 d, .int .i64 t, .int .i64 i, .int .i64 v] := by
  obtain ⟨v0, h0, x, rfl, wf0⟩ := h 0 _ rfl
  obtain ⟨v1, h1, y, rfl, _⟩ := h 1 _ rfl
  obtain ⟨v2, h2, z, rfl, _⟩ := h 2 _ rfl
  obtain ⟨v3, h3, u, rfl, _⟩ := h 3 _ rfl
  have h0x : 0 ≤ x := by simp [Lit.wf, IntKind.min, IntKind.signed] at wf0; omega
  refine ⟨x.toNat, y, z, u, ?_⟩
  have : ((x.toNat : Nat) : Int) = x := by omega
  rw [this]
  match cs, hl with
  | [a, b, c, e], _ => simp at h0 h1 h2 h3; simp [h0, h1, h2, h3]
end Go.Proofs.Ytniiefcbiapieaa
