/- How arguments read as cells: a value's cells by the shape of its type (whole numbers and bools, in structs in structs), a slice of such. -/
import Derived.ProofKit
import Derived.Deep.Slices
import Derived.Below
import Derived.Carry
namespace Go.Proofs.Ytniiefcbiapieaa
open Go.RowKit Go.Deep Go.WideShapes

/-- What is asked of one cell. -/
inductive CK where
  | int (k : IntKind)
  | bool
  | any

def CK.fits : CK → Value → Prop
  | .int k, v => ∃ n, v = .int k n ∧ (Lit.int k n).wf = true
  | .bool, v => ∃ b, v = .bool b
  | .any, _ => True

mutual
def flat (P : Program) : Nat → TypeId → Option (List CK)
  | 0, _ => none
  | f + 1, t => match P.underlying t with
    | some .bool => some [.bool]
    | some (.int k) => some [.int k]
    | some (.struct fs) => flatFs P f 0 fs.toList
    | some _ => if P.cellsOf t = 1 then some [.any] else none
    | none => none
def flatFs (P : Program) : Nat → Nat → List Field → Option (List CK)
  | _, _, [] => some []
  | 0, _, _ :: _ => none
  | f + 1, off, fd :: rest => match flat P f fd.type, flatFs P f (off + P.cellsOf fd.type) rest with
    | some a, some b => if fd.offset = off ∧ P.cellsOf fd.type = a.length then some (a ++ b) else none
    | _, _ => none
end

def Fit (ks : List CK) (cs : List Value) : Prop := ∀ (j : Nat) k, ks[j]? = some k → ∃ v, cs[j]? = some v ∧ k.fits v

section
variable {H : Type} {enc : TypeId × Value → H} {P : Program} {w : World} {base : Nat} {spare : Nat → Bool} {held : Bool}

theorem fit_one {k : CK} {v : Value} (h : k.fits v) : Fit [k] [v] := by
  intro j k' hj
  cases j with
  | zero => simp at hj; subst hj; exact ⟨v, rfl, h⟩
  | succ j => simp at hj

theorem fit_append {a b : List CK} {cs : List Value} (ha : Fit a (cs.take a.length)) (hb : Fit b (cs.drop a.length)) : Fit (a ++ b) cs := by
  intro j k hj
  by_cases h : j < a.length
  · rw [List.getElem?_append_left h] at hj
    obtain ⟨v, hv, hk⟩ := ha j k hj
    rw [List.getElem?_take] at hv
    rw [if_pos h] at hv
    exact ⟨v, hv, hk⟩
  · rw [List.getElem?_append_right (by omega)] at hj
    obtain ⟨v, hv, hk⟩ := hb _ k hj
    rw [List.getElem?_drop] at hv
    refine ⟨v, ?_, hk⟩
    rw [← hv]
    congr 1
    omega

theorem trod_some {t : TypeId} {cs : List Value} {fuel : Nat} {x : DataW H × List MemPlace} (h : DataW.trod enc P w base spare held fuel t cs = some x) (h1 : P.cellsOf t = 1) : ∃ v, cs[0]? = some v := by
  cases cs with
  | cons v r => exact ⟨v, rfl⟩
  | nil =>
    exfalso
    cases fuel with
    | zero => simp [DataW.trod] at h
    | succ n =>
      unfold DataW.trod at h
      split at h <;> simp_all

mutual
theorem flat_fits (f : Nat) (t : TypeId) (ks : List CK) (cs : List Value) (fuel : Nat) (x : DataW H × List MemPlace) (hf : flat P f t = some ks)
    (h : DataW.trod enc P w base spare held fuel t cs = some x) : Fit ks cs := by
  match f with
  | 0 => simp [flat] at hf
  | f + 1 =>
    unfold flat at hf
    split at hf
    · rename_i hu
      obtain ⟨b, rfl, _⟩ := DataW.trod_bool hu h
      cases hf
      exact fit_one ⟨b, rfl⟩
    · rename_i k hu
      obtain ⟨n, rfl, _, hw⟩ := DataW.trod_int hu h
      cases hf
      exact fit_one ⟨n, rfl, hw⟩
    · rename_i fs hu
      obtain ⟨xs, n, _, _, hl, hlen, hfs⟩ := DataW.trod_struct hu h
      exact flatFs_fits f 0 fs.toList ks cs n hf (fun i fd hi => by
        have hi' : fs[i]? = some fd := by simpa using hi
        have := hfs i fd hi'
        have hx : i < xs.length := by rw [hlen]; exact (Array.getElem?_eq_some_iff.1 hi').1
        rw [List.getElem?_eq_getElem hx] at this
        exact ⟨_, this⟩)
    · split at hf
      · rename_i h1
        cases hf
        obtain ⟨v, hv⟩ := trod_some h h1
        intro j k hj
        cases j with
        | zero => simp at hj; subst hj; exact ⟨v, hv, trivial⟩
        | succ j => simp at hj
      · cases hf
    · cases hf
theorem flatFs_fits (f off : Nat) (fs : List Field) (ks : List CK) (cs : List Value) (n : Nat) (hf : flatFs P f off fs = some ks)
    (h : ∀ (i : Nat) fd, fs[i]? = some fd → ∃ x, DataW.trod enc P w base spare held n fd.type ((cs.drop fd.offset).take (P.cellsOf fd.type)) = some x) : Fit ks (cs.drop off) := by
  match f, fs with
  | 0, [] => simp [flatFs] at hf; subst hf; intro j k hj; simp at hj
  | f + 1, [] => simp [flatFs] at hf; subst hf; intro j k hj; simp at hj
  | 0, fd :: rest => simp [flatFs] at hf
  | f + 1, fd :: rest =>
    unfold flatFs at hf
    split at hf
    · rename_i a b ha hb
      split at hf
      · rename_i hoff
        cases hf
        obtain ⟨x, hx⟩ := h 0 fd rfl
        obtain ⟨ho, hla⟩ := hoff
        refine fit_append ?_ ?_
        · rw [ho] at hx
          rw [← hla]
          exact flat_fits f fd.type a _ n x ha hx
        · rw [List.drop_drop, ← hla]
          exact flatFs_fits f _ rest b cs n hb (fun i fd' hi => h (i + 1) fd' hi)
      · cases hf
    · cases hf
end
end

/-- A slice of such elements that came in: nil, or a row. -/
def RowsIn (w : World) (A : Option Addr) (len cap : Nat) (ks : List CK) : Prop :=
  (len = 0 ∧ cap = 0) ∨
  ∃ b off, A = some ⟨b, off, none⟩ ∧ len ≤ cap ∧ cap ≤ maxLen ∧ ∀ i, i < cap → ∀ (j : Nat) k, ks[j]? = some k → ∃ v, w.cell? ⟨b, off + (i * ks.length + j), none⟩ = some v ∧ k.fits v

theorem cells_fit {H : Type} {enc : TypeId × Value → H} {P : Program} {w : World} {x : Addr} {e : TypeId} {ks : List CK} {cs : List Value} {n : Nat} {y : DataW H × List MemPlace} (f : Nat) (hfl : flat P f e = some ks) (hn : P.cellsOf e = ks.length)
    (h1 : w.cells? 0 x (P.cellsOf e) = some cs) (h2 : DataW.trod enc P w 0 (fun _ => true) true n e cs = some y) : ∀ (j : Nat) k, ks[j]? = some k → ∃ v, w.cell? (x.add j) = some v ∧ k.fits v := by
  intro j k hj
  obtain ⟨v, hv, hk⟩ := flat_fits f e ks cs n y hfl h2 j k hj
  obtain ⟨_, _, h3⟩ := World.cells?_some h1
  have hjl : j < ks.length := by
    by_cases hlt : j < ks.length
    · exact hlt
    · rw [List.getElem?_eq_none (by omega)] at hj; cases hj
  exact ⟨v, by rw [h3 j (by omega), hv], hk⟩

theorem open_rows {H : Type} {enc : TypeId × Value → H} {P : Program} {w : World} {t e : TypeId} {A : Option Addr} {len cap : Nat} {d : DataW H} {ps : List MemPlace} (f : Nat) (ks : List CK) (ht : P.underlying t = some (.slice e)) (hfl : flat P f e = some ks) (hn : P.cellsOf e = ks.length) (h0 : 0 < ks.length)
    (h : DataW.Trod enc P w 0 (fun _ => true) true t (.slice A len cap) d ps) : RowsIn w A len cap ks := by
  obtain ⟨fuel, hf⟩ := h
  rcases open_slice ht hf with ⟨hcs, _⟩ | ⟨x, l, c, m, n, D, Pl, hcs, _, hl, hm, hmm, _, hel⟩
  · simp [Value.cells] at hcs
    obtain ⟨rfl, rfl, rfl⟩ := hcs
    exact .inl ⟨rfl, rfl⟩
  · simp [Value.cells] at hcs
    obtain ⟨rfl, rfl, rfl⟩ := hcs
    simp only [if_true] at hmm
    subst hmm
    have hall : ∀ i, i < m → ∀ (j : Nat) k, ks[j]? = some k → ∃ v, w.cell? ((x.add (i * ks.length)).add j) = some v ∧ k.fits v := by
      intro i hi j k hj
      obtain ⟨cs', h1, h2⟩ := hel i hi
      rw [hn] at h1
      exact cells_fit f hfl hn (by rw [hn]; exact h1) h2 j k hj
    obtain ⟨b, off, spot⟩ := x
    by_cases hz : m = 0
    · subst hz
      have hl0 : len = 0 := by omega
      subst hl0
      exact .inl ⟨rfl, rfl⟩
    · obtain ⟨k0, hk0⟩ : ∃ k, ks[0]? = some k := ⟨ks[0], List.getElem?_eq_getElem h0⟩
      obtain ⟨v, hv, _⟩ := hall 0 (by omega) 0 k0 hk0
      have hspot : spot = none := by simpa [Addr.add] using World.cell?_spot hv
      subst hspot
      refine .inr ⟨b, off, rfl, hl, hm, fun i hi j k hj => ?_⟩
      obtain ⟨v, hv, hk⟩ := hall i hi j k hj
      refine ⟨v, ?_, hk⟩
      rw [add_plain, add_plain] at hv
      rw [← hv, Nat.add_assoc]
end Go.Proofs.Ytniiefcbiapieaa
