/- A policy that is handed in: its links. -/
import Derived.Test.YtniiefcbiapieaaLActs
import Derived.ChangeSame
namespace Go.Proofs.Ytniiefcbiapieaa
open Go.RowKit Go.Deep Go.WideShapes Go.ChangeMaps

theorem open_rows_at {H : Type} {enc : TypeId × Value → H} {P : Program} {w : World} {t e : TypeId} {cs : List Value} {y : DataW H × List MemPlace} {fuel : Nat} (f : Nat) (ks : List CK) (ht : P.underlying t = some (.slice e)) (hfl : flat P f e = some ks) (hn : P.cellsOf e = ks.length) (h0 : 0 < ks.length)
    (hf : DataW.trod enc P w 0 (fun _ => true) true fuel t cs = some y) : ∃ A len cap, cs = [.slice A len cap] ∧ RowsIn w A len cap ks := by
  rcases open_slice ht hf with ⟨hcs, _⟩ | ⟨x, l, c, m, n, D, Pl, hcs, _, hl, hm, hmm, _, hel⟩
  · exact ⟨_, _, _, hcs, .inl ⟨rfl, rfl⟩⟩
  · refine ⟨_, _, _, hcs, ?_⟩
    simp only [if_true] at hmm
    subst hmm
    have hall : ∀ i, i < m → ∀ (j : Nat) k, ks[j]? = some k → ∃ v, w.cell? ((x.add (i * ks.length)).add j) = some v ∧ k.fits v := by
      intro i hi j k hj
      obtain ⟨cs', h1, h2⟩ := hel i hi
      rw [hn] at h1
      exact cells_fit f hfl hn (by rw [hn]; exact h1) h2 j k hj
    obtain ⟨b, off, spot⟩ := x
    by_cases hz : m = 0
    · subst hz
      have hl0 : l = 0 := by omega
      subst hl0
      exact .inl ⟨rfl, rfl⟩
    · obtain ⟨k0, hk0⟩ : ∃ k, ks[0]? = some k := ⟨ks[0], List.getElem?_eq_getElem h0⟩
      obtain ⟨v, hv, _⟩ := hall 0 (by omega) 0 k0 hk0
      have hspot : spot = none := by simpa [Addr.add] using World.cell?_spot hv
      subst hspot
      refine .inr ⟨b, off, rfl, hl, hm, fun i hi j k hj => ?_⟩
      obtain ⟨v, hv, hk⟩ := hall i hi j k hj
      refine ⟨v, ?_, hk⟩
      rw [add_plain, add_plain] at hv
      rw [← hv, Nat.add_assoc]

abbrev linkKinds : List CK := [.int .i64, .int .i64, .int .i64, .int .i64]

set_option maxRecDepth 100000 in
theorem open_policy {H : Type} {enc : TypeId × Value → H} {w : World} {r : Reach} {b0 : Nat} {v : Value} {d : DataW H} {ps : List MemPlace} (hv : Value.okWide Try.prog w r b0 68 v) (h : DataW.Trod enc Try.prog w 0 (fun _ => true) true 68 v d ps) :
    ∃ D dn dc S sn sc A len cap, v = .agg #[.slice D dn dc, .slice S sn sc, .slice A len cap] ∧ RowsIn w A len cap linkKinds := by
  obtain ⟨cs, rfl, hsz⟩ := okWide_struct Try.underlying68 hv
  obtain ⟨fuel, hf⟩ := h
  obtain ⟨xs, n, _, _, hl, hlen, hfs⟩ := DataW.trod_struct Try.underlying68 hf
  have h3 : Try.prog.cellsOf 68 = 3 := by kernel_rfl
  rw [h3] at hsz
  have h64 : Try.prog.cellsOf 64 = 1 := by kernel_rfl
  have h65 : Try.prog.cellsOf 65 = 1 := by kernel_rfl
  have h66 : Try.prog.cellsOf 66 = 1 := by kernel_rfl
  have h0 := hfs 0 _ rfl
  have h1 := hfs 1 _ rfl
  have h2 := hfs 2 _ rfl
  have hx : xs.length = 3 := by rw [hlen]; rfl
  rw [List.getElem?_eq_getElem (by omega)] at h0 h1 h2
  change DataW.trod enc Try.prog w 0 (fun x => true) true n 64 (List.take (Try.prog.cellsOf 64) (List.drop 0 (Value.agg cs).cells.toList)) = some xs[0] at h0
  change DataW.trod enc Try.prog w 0 (fun x => true) true n 65 (List.take (Try.prog.cellsOf 65) (List.drop 1 (Value.agg cs).cells.toList)) = some xs[1] at h1
  change DataW.trod enc Try.prog w 0 (fun x => true) true n 66 (List.take (Try.prog.cellsOf 66) (List.drop 2 (Value.agg cs).cells.toList)) = some xs[2] at h2
  rw [h64] at h0
  rw [h65] at h1
  rw [h66] at h2
  obtain ⟨D, dn, dc, hc0, _⟩ := open_rows_at 16 [.any, .int .i64, .int .i64, .int .i64, .int .i64, .int .i64] Try.underlying64 (by kernel_rfl) (by kernel_rfl) (by decide) h0
  obtain ⟨S, sn, sc, hc1, _⟩ := open_rows_at 8 [.int .i64, .int .i64] Try.underlying65 (by kernel_rfl) (by kernel_rfl) (by decide) h1
  obtain ⟨A, len, cap, hc, hrows⟩ := open_rows_at 8 linkKinds Try.underlying66 (by kernel_rfl) (by kernel_rfl) (by decide) h2
  refine ⟨D, dn, dc, S, sn, sc, A, len, cap, ?_, hrows⟩
  obtain ⟨l⟩ := cs
  match l, hsz with
  | [a, b, c], _ =>
    simp [Value.cells] at hc hc0 hc1
    simp [hc, hc0, hc1]

theorem rows_links {w : World} {A : Option Addr} {len cap : Nat} (h : RowsIn w A len cap linkKinds) :
    (len = 0 ∧ cap = 0) ∨ ∃ b off, ∃ f : Nat → LinkS, A = some ⟨b, off, none⟩ ∧ len ≤ cap ∧ len ≤ 9223372036854775807 ∧ ∀ i, i < len → ∀ (j : Nat) (u : Value), (f i).vals[j]? = some u → w.cell? ⟨b, off + (i * 4 + j), none⟩ = some u := by
  rcases h with h0 | ⟨b, off, hA, hl, hm, hc⟩
  · exact .inl h0
  · right
    have hin : ∃ x : LinkS, True := ⟨⟨0, 0, 0, 0⟩, trivial⟩
    obtain ⟨f, hf⟩ := Go.Deep.choose_lt (α := Int × Int × Int × Int) (n := len) (p := fun i x => ∀ (j : Nat) (u : Value), (LinkS.mk x.1 x.2.1 x.2.2.1 x.2.2.2).vals[j]? = some u → w.cell? ⟨b, off + (i * 4 + j), none⟩ = some u) (fun i hi => by
      obtain ⟨v0, h0, x0, rfl, _⟩ := hc i (by omega) 0 _ rfl
      obtain ⟨v1, h1, x1, rfl, _⟩ := hc i (by omega) 1 _ rfl
      obtain ⟨v2, h2, x2, rfl, _⟩ := hc i (by omega) 2 _ rfl
      obtain ⟨v3, h3, x3, rfl, _⟩ := hc i (by omega) 3 _ rfl
      refine ⟨(x0, x1, x2, x3), fun j u hj => ?_⟩
      match j with
      | 0 => simp [LinkS.vals] at hj; subst hj; exact h0
      | 1 => simp [LinkS.vals] at hj; subst hj; exact h1
      | 2 => simp [LinkS.vals] at hj; subst hj; exact h2
      | 3 => simp [LinkS.vals] at hj; subst hj; exact h3
      | j + 4 => simp [LinkS.vals] at hj)
    unfold maxLen at hm
    exact ⟨b, off, fun i => ⟨(f i).1, (f i).2.1, (f i).2.2.1, (f i).2.2.2⟩, hA, hl, by omega, hf⟩

/-- The first n links. -/
def linksTo (f : Nat → LinkS) (n : Nat) : List LinkS := (List.range n).map f
theorem linksTo_length (f : Nat → LinkS) (n : Nat) : (linksTo f n).length = n := by simp [linksTo]
theorem linksTo_get (f : Nat → LinkS) (n i : Nat) (h : i < n) : (linksTo f n)[i]? = some (f i) := by simp [linksTo, h]

theorem links_read {w : World} {b off len n : Nat} {f : Nat → LinkS} (h : ∀ i, i < len → ∀ (j : Nat) (u : Value), (f i).vals[j]? = some u → w.cell? ⟨b, off + (i * 4 + j), none⟩ = some u) (hn : n ≤ len) :
    ∀ (j : Nat) (u : Value), (linkVals (linksTo f n))[j]? = some u → w.cell? ((⟨b, off, none⟩ : Addr).add j) = some u := by
  intro j u hj
  have hjl : j < n * 4 := by
    have := (List.getElem?_eq_some_iff.1 hj).1
    rwa [linkVals_length, linksTo_length] at this
  have hd : j / 4 < n := by omega
  have hm : j % 4 < 4 := by omega
  have hg := linkVals_get (linksTo_get f n (j / 4) hd) (j % 4) hm
  rw [show j / 4 * 4 + j % 4 = j by omega, hj] at hg
  have := h (j / 4) (by omega) (j % 4) u hg.symm
  rw [add_plain]
  rwa [show j / 4 * 4 + j % 4 = j by omega] at this

theorem links_one (ls : List LinkS) : ∀ u ∈ linkVals ls, u.oneCell' = true := by
  intro u hu
  unfold linkVals at hu
  rw [List.mem_flatten] at hu
  obtain ⟨l, hl, hu⟩ := hu
  rw [List.mem_map] at hl
  obtain ⟨x, _, rfl⟩ := hl
  simp [LinkS.vals] at hu
  rcases hu with rfl | rfl | rfl | rfl <;> rfl

/-- What few gives: the first ten. -/
def fewPost (w : World) (dv sv : Value) (A : Option Addr) (n : Nat) (e : Ending) (w' : World) : Prop := ∃ cap, n ≤ cap ∧ (A = none → cap = 0) ∧ e = .returned (.agg #[dv, sv, .slice A n cap]) ∧ Below w.heap.size w w'

end Go.Proofs.Ytniiefcbiapieaa
