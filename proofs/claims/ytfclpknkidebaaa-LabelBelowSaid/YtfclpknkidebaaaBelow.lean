/- What label.Below and the reference's Ints do. -/
import Derived.Test.YtfclpknkidebaaaLab
import Derived.Test.YtfclpknkidebaaaSlc
import Derived.Test.YtfclpknkidebaaaRead
import Derived.LoopTactic
namespace Go.Proofs.Ytfclpknkidebaaa
open Go.RowKit

theorem Try.info3 : (Try.prog.info? 3).map (fun i => (i.zero, i.size, i.bytes)) = some (some (.int .i64 0), 1, 8) := by kernel_rfl

/-- The labels of a list that came in: f, below n. -/
def LabsIn (w : World) (A : Option Addr) (n : Nat) (f : Nat → Int × Int) : Prop :=
  n = 0 ∨ ∃ b off, A = some ⟨b, off, none⟩ ∧ ∀ i, i < n → w.cell? ⟨b, off + i * 2, none⟩ = some (.int .i64 (f i).1) ∧ w.cell? ⟨b, off + i * 2 + 1, none⟩ = some (.int .i64 (f i).2)

/-- The places, below k, of the labels that are below (l, c). -/
def places (f : Nat → Int × Int) (l c : Int) (k : Nat) : List Int := ((List.range k).filter fun i => leqB (f i).1 (f i).2 l c).map fun (i : Nat) => (i : Int)
theorem places_yes {f : Nat → Int × Int} {l c : Int} {k : Nat} (h : leqB (f k).1 (f k).2 l c = true) : places f l c (k + 1) = places f l c k ++ [(k : Int)] := by
  simp [places, List.range_succ, List.filter_append, h]
theorem places_no {f : Nat → Int × Int} {l c : Int} {k : Nat} (h : leqB (f k).1 (f k).2 l c = false) : places f l c (k + 1) = places f l c k := by
  simp [places, List.range_succ, List.filter_append, h]
theorem places_le (f : Nat → Int × Int) (l c : Int) (k : Nat) : (places f l c k).length ≤ k := by
  unfold places
  rw [List.length_map]
  exact Nat.le_trans (List.length_filter_le _ _) (by simp)

def BelowAt (w0 : World) (γ0 : Nat → Option (Nat × Obj)) (t g3 n : Nat) (f : Nat → Int × Int) (l c : Int) (sv i : Value) (wr : World) : Prop :=
  ∃ (k : Nat) (γ : Nat → Option (Nat × Obj)), i = .int .i64 k ∧ k ≤ n ∧ Own w0 wr γ ∧ γ 900 = some (g3, .cells #[.int .i64 l, .int .i64 c] 23 (0, 0)) ∧ SliceAt γ t 3 1 sv (places f l c k).length (ints (places f l c k)) ∧
    ∀ j, j ≠ t → j ≠ 900 → j ≠ 901 → γ j = γ0 j

set_option maxRecDepth 100000 in
set_option maxHeartbeats 2000000 in
theorem below_any {w0 w : World} {γ0 : Nat → Option (Nat × Obj)} (hs : Own w0 w γ0) (t : Nat) (ht : t < 900) (A : Option Addr) (n cap : Nat) (f : Nat → Int × Int) (hin : LabsIn w0 A n f) (hn : n ≤ 100) (l c : Int) :
    Calls Try.prog 16 #[.slice A n cap, lab l c] w fun e w' => ∃ sv γ, e = .returned sv ∧ Own w0 w' γ ∧ SliceAt γ t 3 1 sv (places f l c n).length (ints (places f l c n)) ∧ ∀ j, j ≠ t → j ≠ 900 → j ≠ 901 → γ j = γ0 j := by
  obtain ⟨i0, hi, hz0, hz1, hz2⟩ := info_parts Try.info3
  have hs1 := hs.new 900 (.cells #[.int .i64 l, .int .i64 c] 23 (0, 0))
  go_enter Try.func16, Try.ntmps16
  go_wp2
  go_loopw [5, 10] (fun sv i wr => BelowAt w0 γ0 t w.heap.size n f l c sv i wr) (fun _ i _ => n - (intOf i).toNat)
  case atStart => exact ⟨0, _, rfl, by omega, hs1, put_same _ _ _ _, ⟨by simp [ints, places], .inl ⟨rfl, by simp [places]⟩⟩, fun j h1 h2 _ => put_other _ _ _ h2⟩
  case round =>
    obtain ⟨k, γ, rfl, hk, ho, h9, hsl, hkeep⟩ := hrel
    by_cases hlt : k < n
    · rcases hin with h0 | ⟨b, off, rfl, hcell⟩
      · omega
      obtain ⟨hc0, hc1⟩ := hcell k hlt
      have hp : (f k).1 = (f k).1 := rfl
      obtain ⟨x, hx⟩ : ∃ x, x = (f k).1 := ⟨_, rfl⟩
      obtain ⟨y, hy⟩ : ∃ x, x = (f k).2 := ⟨_, rfl⟩
      rw [← hx] at hc0
      rw [← hy] at hc1
      have d0 := (ho.below.cell (World.block_lt_of_cell? w0 _ hc0)).trans hc0
      have d1 := (ho.below.cell (World.block_lt_of_cell? w0 _ hc1)).trans hc1
      have HX : Hid (x = (f k).1 ∧ y = (f k).2) := ⟨hx, hy⟩
      clear hx hy hp hcell
      have ho1 := ho.new 901 (.cells #[.int .i64 x, .int .i64 y] 23 (0, 0))
      have e0 : wr.cell? ⟨w.heap.size, 0, none⟩ = some (.int .i64 l) := ho.cell h9 (i := 0) rfl
      have e1 : wr.cell? ⟨w.heap.size, 1, none⟩ = some (.int .i64 c) := ho.cell h9 (i := 1) rfl
      have hl9 : w.heap.size < wr.heap.size := ho.lt h9
      have hl9' : w.heap.size ≠ wr.heap.size := by omega
      go_wp2_with fail
      refine (leq_any x y l c _).mono ?_
      rintro e w1 ⟨rfl, hb⟩
      have ho2 := ho1.below' hb
      have hs2 := hsl.keep (γ' := put γ 901 wr.heap.size (.cells #[.int .i64 x, .int .i64 y] 23 (0, 0))) (put_other _ _ _ (by omega))
      have h92 := (put_other γ (t := 901) wr.heap.size (.cells #[.int .i64 x, .int .i64 y] 23 (0, 0)) (k := 900) (by omega)).trans h9
      have hk2 : ∀ j, j ≠ t → j ≠ 900 → j ≠ 901 → put γ 901 wr.heap.size (.cells #[.int .i64 x, .int .i64 y] 23 (0, 0)) j = γ0 j := fun j h1 h2 h3 => (put_other _ _ _ h3).trans (hkeep j h1 h2 h3)
      generalize put γ 901 wr.heap.size (.cells #[.int .i64 x, .int .i64 y] 23 (0, 0)) = γ2 at *
      have hpl := places_le f l c k
      cases hle : leqB x y l c with
      | false =>
        have hno := places_no (f := f) (l := l) (c := c) (k := k) (by rw [← HX.out.1, ← HX.out.2]; exact hle)
        have HNO : Hid (places f l c (k + 1) = places f l c k) := hno
        clear hno hle hb ho1 hsl h9 hkeep ho e0 e1 d0 d1 hc0 hc1 hl9 hl9'
        go_wp2_with fail
        go_roundw
        case rel => exact ⟨k + 1, γ2, by go_num, by omega, ho2, h92, by rw [HNO.out]; exact hs2, hk2⟩
        case measure => simp [intOf]; omega
      | true =>
        have hyes := places_yes (f := f) (l := l) (c := c) (k := k) (by rw [← HX.out.1, ← HX.out.2]; exact hle)
        have HY : Hid (places f l c (k + 1) = places f l c k ++ [(k : Int)]) := hyes
        clear hyes hle hb ho1 hsl h9 hkeep ho e0 e1 d0 d1 hc0 hc1 hl9 hl9'
        have hown := hs2.owns ho2
        have hbase := ho2.below.size
        obtain ⟨B, cb, rfl, hcb⟩ := hs2.form
        generalize hP : places f l c k = ps at *
        have HP : Hid (places f l c k = ps) := hP
        clear hP
        go_wp2_with (at_builtin; refine wpList_append_own_at _ rfl (.tmp 18) (.tmp 20) 30 rfl w0.heap.size 3 i0 (.int .i64 0) 1 8 Try.underlying30 hi hz0 hz1 hz2 rfl (by decide) _ _ _ rfl (hown.alloc _) ⟨w1.heap.size, 0, none⟩ 1 1 [.int .i64 k] rfl rfl ?c1 ?c2 ?c3 ?c4 ?c5 ?_)
        case c1 => exact cell_one_new _ _ _
        case c2 => intro u hu; simp at hu; subst hu; rfl
        case c3 => unfold maxLen; omega
        case c4 => omega
        case c5 => simp; omega
        intro v' w3 hown1 hgrow hnn hat
        have hs' := ho2.below' ((Below.refl w1.heap.size w1).alloc (Nat.le_refl _) (Obj.cells #[Value.int .i64 k] 3))
        obtain ⟨γ3, ho3, hs3, hk3⟩ := own_append hs' hs2 rfl hown1 hgrow (by simpa using hat)
        have h93 := (hk3 900 (by omega)).trans h92
        have hk4 : ∀ j, j ≠ t → j ≠ 900 → j ≠ 901 → γ3 j = γ0 j := fun j h1 h2 h3 => (hk3 j h1).trans (hk2 j h1 h2 h3)
        rw [ints_snoc] at hs3
        have hl : (ps ++ [(k : Int)]).length = ps.length + 1 := by simp
        rw [← hl] at hs3
        have HF : SliceAt γ3 t 3 1 v' (places f l c (k + 1)).length (ints (places f l c (k + 1))) := by rw [HY.out]; exact hs3
        clear hs3 hl hown1 hgrow hnn hat hs' hown HY HP
        go_wp2_with fail
        go_roundw
        case rel => exact ⟨k + 1, γ3, by go_num, by omega, ho3, h93, HF, hk4⟩
        case measure => simp [intOf]; omega
    · obtain rfl : k = n := by omega
      go_wp2_with fail
      go_ret
      exact ⟨_, γ, rfl, ho, hsl, hkeep⟩

theorem labs_of {w : World} {A : Option Addr} {len cap : Nat} (h : RowsIn w A len cap [.int .i64, .int .i64]) : len = 0 ∨ ∃ b off, A = some ⟨b, off, none⟩ ∧ len ≤ cap ∧ cap ≤ 9223372036854775807 ∧ ∃ f, LabsIn w A len f ∧ LabsIn w A (min len 100) f := by
  rcases h with ⟨h0, _⟩ | ⟨b, off, hA, hl, hm, hc⟩
  · exact .inl h0
  · right
    obtain ⟨f, hf⟩ := Go.Deep.choose_lt (α := Int × Int) (n := len) (p := fun i x => w.cell? ⟨b, off + i * 2, none⟩ = some (.int .i64 x.1) ∧ w.cell? ⟨b, off + i * 2 + 1, none⟩ = some (.int .i64 x.2)) (fun i hi => by
      obtain ⟨v0, h0, x, rfl, _⟩ := hc i (by omega) 0 _ rfl
      obtain ⟨v1, h1, y, rfl, _⟩ := hc i (by omega) 1 _ rfl
      exact ⟨(x, y), by simpa using h0, by simpa [Nat.add_assoc] using h1⟩)
    unfold maxLen at hm
    exact ⟨b, off, hA, hl, by omega, f, .inr ⟨b, off, hA, hf⟩, .inr ⟨b, off, hA, fun i hi => hf i (by omega)⟩⟩
end Go.Proofs.Ytfclpknkidebaaa
