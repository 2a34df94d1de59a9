/- Acts, handed in as a slice. -/
import Derived.Test.YtniiefcbiapieaaRead
namespace Go.Proofs.Ytniiefcbiapieaa
open Go.RowKit

/-- Acts: what to do, a task, a word, a value. -/
theorem rows_acts {w : World} {A : Option Addr} {len cap : Nat} (h : RowsIn w A len cap [.int .u8, .int .i64, .int .i64, .int .i64]) :
    len = 0 ∨ ∃ b off, ∃ f : Nat → Nat × Int × Int × Int, A = some ⟨b, off, none⟩ ∧ len ≤ cap ∧ len ≤ 9223372036854775807 ∧
      ∀ i, i < len → (w.cell? ⟨b, off + i * 4, none⟩ = some (.int .u8 (f i).1) ∧ w.cell? ⟨b, off + i * 4 + 1, none⟩ = some (.int .i64 (f i).2.1)) ∧ w.cell? ⟨b, off + i * 4 + 2, none⟩ = some (.int .i64 (f i).2.2.1) ∧ w.cell? ⟨b, off + i * 4 + 3, none⟩ = some (.int .i64 (f i).2.2.2) := by
  rcases h with ⟨h0, _⟩ | ⟨b, off, hA, hl, hm, hc⟩
  · exact .inl h0
  · right
    obtain ⟨f, hf⟩ := Go.Deep.choose_lt (α := Nat × Int × Int × Int) (n := len) (p := fun i x => (w.cell? ⟨b, off + i * 4, none⟩ = some (.int .u8 x.1) ∧ w.cell? ⟨b, off + i * 4 + 1, none⟩ = some (.int .i64 x.2.1)) ∧ w.cell? ⟨b, off + i * 4 + 2, none⟩ = some (.int .i64 x.2.2.1) ∧ w.cell? ⟨b, off + i * 4 + 3, none⟩ = some (.int .i64 x.2.2.2)) (fun i hi => by
      obtain ⟨v0, h0, x, rfl, wf0⟩ := hc i (by omega) 0 _ rfl
      obtain ⟨v1, h1, y, rfl, _⟩ := hc i (by omega) 1 _ rfl
      obtain ⟨v2, h2, z, rfl, _⟩ := hc i (by omega) 2 _ rfl
      obtain ⟨v3, h3, u, rfl, _⟩ := hc i (by omega) 3 _ rfl
      have h0x : 0 ≤ x := by simp [Lit.wf, IntKind.min, IntKind.signed] at wf0; omega
      refine ⟨(x.toNat, y, z, u), ⟨?_, by simpa [Nat.add_assoc] using h1⟩, by simpa [Nat.add_assoc] using h2, by simpa [Nat.add_assoc] using h3⟩
      have : ((x.toNat : Nat) : Int) = x := by omega
      simp only [this]
      simpa using h0)
    unfold maxLen at hm
    exact ⟨b, off, f, hA, hl, by omega, hf⟩

end Go.Proofs.Ytniiefcbiapieaa
