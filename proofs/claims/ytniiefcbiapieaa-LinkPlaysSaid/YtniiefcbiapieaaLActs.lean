/- Acts on links, handed in as a slice. -/
import Derived.Test.YtniiefcbiapieaaRead
import Derived.Test.YtniiefcbiapieaaLJoin
namespace Go.Proofs.Ytniiefcbiapieaa
open Go.RowKit Go.ChangeMaps

structure LAct where
  dom : Int
  task : Int
  gone : Bool
  k : Int
  dm : Int
  pk : Int
  op : Int
  a : Int
  b : Int
  v : Int

instance : Inhabited LAct := ⟨⟨0, 0, false, 0, 0, 0, 0, 0, 0, 0⟩⟩
abbrev LAct.kinds : List CK := [.int .i64, .int .i64, .bool, .int .i64, .int .i64, .int .i64, .int .i64, .int .i64, .int .i64, .int .i64]
def LAct.obj (x : LAct) : Obj := .cells #[.int .i64 x.dom, .int .i64 x.task, .bool x.gone, .int .i64 x.k, .int .i64 x.dm, .int .i64 x.pk, .int .i64 x.op, .int .i64 x.a, .int .i64 x.b, .int .i64 x.v] 76

/-- The ten cells from an address on. -/
structure LAct.At (w : World) (b o : Nat) (x : LAct) : Prop where
  c0 : w.cell? ⟨b, o, none⟩ = some (.int .i64 x.dom)
  c1 : w.cell? ⟨b, o + 1, none⟩ = some (.int .i64 x.task)
  c2 : w.cell? ⟨b, o + 2, none⟩ = some (.bool x.gone)
  c3 : w.cell? ⟨b, o + 3, none⟩ = some (.int .i64 x.k)
  c4 : w.cell? ⟨b, o + 4, none⟩ = some (.int .i64 x.dm)
  c5 : w.cell? ⟨b, o + 5, none⟩ = some (.int .i64 x.pk)
  c6 : w.cell? ⟨b, o + 6, none⟩ = some (.int .i64 x.op)
  c7 : w.cell? ⟨b, o + 7, none⟩ = some (.int .i64 x.a)
  c8 : w.cell? ⟨b, o + 8, none⟩ = some (.int .i64 x.b)
  c9 : w.cell? ⟨b, o + 9, none⟩ = some (.int .i64 x.v)

theorem LAct.At.below {w w' : World} {b o : Nat} {x : LAct} (h : LAct.At w b o x) {n : Nat} (hn : w.heap.size ≤ n) (hb : Below n w w') : LAct.At w' b o x := by
  have hlt := World.block_lt_of_cell? w _ h.c0
  have key : ∀ i, w'.cell? ⟨b, i, none⟩ = w.cell? ⟨b, i, none⟩ := fun i => hb.cell (p := ⟨b, i, none⟩) (Nat.lt_of_lt_of_le hlt hn)
  exact ⟨(key _).trans h.c0, (key _).trans h.c1, (key _).trans h.c2, (key _).trans h.c3, (key _).trans h.c4, (key _).trans h.c5, (key _).trans h.c6, (key _).trans h.c7, (key _).trans h.c8, (key _).trans h.c9⟩

theorem LAct.of_own {w0 w : World} {γ : Nat → Option (Nat × Obj)} {t g : Nat} {x : LAct} (h : Own w0 w γ) (hg : γ t = some (g, x.obj)) : LAct.At w g 0 x :=
  ⟨h.cell hg (i := 0) rfl, h.cell hg (i := 1) rfl, h.cell hg (i := 2) rfl, h.cell hg (i := 3) rfl, h.cell hg (i := 4) rfl, h.cell hg (i := 5) rfl, h.cell hg (i := 6) rfl, h.cell hg (i := 7) rfl, h.cell hg (i := 8) rfl, h.cell hg (i := 9) rfl⟩

theorem rows_lacts {w : World} {A : Option Addr} {len cap : Nat} (h : RowsIn w A len cap LAct.kinds) :
    len = 0 ∨ ∃ b off, ∃ f : Nat → LAct, A = some ⟨b, off, none⟩ ∧ len ≤ cap ∧ len ≤ 9223372036854775807 ∧ ∀ i, i < len → LAct.At w b (off + i * 10) (f i) ∧ Fits (f i).dom ∧ Fits (f i).task := by
  rcases h with ⟨h0, _⟩ | ⟨b, off, hA, hl, hm, hc⟩
  · exact .inl h0
  · right
    obtain ⟨f, hf⟩ := Go.Deep.choose_lt (α := LAct) (n := len) (p := fun i x => LAct.At w b (off + i * 10) x ∧ Fits x.dom ∧ Fits x.task) (fun i hi => by
      obtain ⟨v0, h0, x0, rfl, f0⟩ := hc i (by omega) 0 _ rfl
      obtain ⟨v1, h1, x1, rfl, f1⟩ := hc i (by omega) 1 _ rfl
      obtain ⟨v2, h2, x2, rfl⟩ := hc i (by omega) 2 _ rfl
      obtain ⟨v3, h3, x3, rfl, _⟩ := hc i (by omega) 3 _ rfl
      obtain ⟨v4, h4, x4, rfl, _⟩ := hc i (by omega) 4 _ rfl
      obtain ⟨v5, h5, x5, rfl, _⟩ := hc i (by omega) 5 _ rfl
      obtain ⟨v6, h6, x6, rfl, _⟩ := hc i (by omega) 6 _ rfl
      obtain ⟨v7, h7, x7, rfl, _⟩ := hc i (by omega) 7 _ rfl
      obtain ⟨v8, h8, x8, rfl, _⟩ := hc i (by omega) 8 _ rfl
      obtain ⟨v9, h9, x9, rfl, _⟩ := hc i (by omega) 9 _ rfl
      have e : ∀ j, off + (i * LAct.kinds.length + j) = off + i * 10 + j := fun j => by show off + (i * 10 + j) = _; omega
      rw [e] at h0 h1 h2 h3 h4 h5 h6 h7 h8 h9
      exact ⟨⟨x0, x1, x2, x3, x4, x5, x6, x7, x8, x9⟩, ⟨h0, h1, h2, h3, h4, h5, h6, h7, h8, h9⟩, f0, f1⟩)
    unfold maxLen at hm
    exact ⟨b, off, f, hA, hl, by omega, hf⟩
end Go.Proofs.Ytniiefcbiapieaa
