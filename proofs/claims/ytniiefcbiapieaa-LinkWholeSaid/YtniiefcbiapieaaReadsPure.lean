/- What holds of a cell and of what was told of it, whatever writers do. -/
import Derived.Test.YtniiefcbiapieaaWrite
namespace Go.Proofs.Ytniiefcbiapieaa
open Go.RowKit

structure WS.Inv (s : WS) (n : Nat) : Prop where
  ok : s.c.Ok
  cs : s.c.s = n
  now : s.now = s.c.ws.take n
  told : s.c.t = 0 → s.told = s.now

theorem WS.Inv.write {s : WS} {n : Nat} (h : s.Inv n) (hq : s.c.q < 999) (d : Nat) (t i v : Int) : (s.write d t i v).Inv n := by
  unfold WS.write
  split
  · refine ⟨h.ok.begin t hq, (s.c.begin_s t).trans h.cs, ?_, ?_⟩
    · show s.now = (s.c.begin t).ws.take n
      unfold CS.begin
      split
      · exact h.now
      · exact h.now
    · show (s.c.begin t).t = 0 → s.told = s.now
      unfold CS.begin
      split
      · rename_i he
        intro h0
        have : ¬ t < 1 := fun ht => by unfold CS.beginE at he; rw [if_pos ht] at he; cases he
        simp only at h0
        omega
      · exact h.told
  · split
    · refine ⟨h.ok.end_ t hq, (s.c.end_s t).trans h.cs, ?_, ?_⟩
      · show s.now = (s.c.end_ t).ws.take n
        unfold CS.end_
        split
        · exact h.now
        · exact h.now
      · show (s.c.end_ t).t = 0 → (if s.c.endE t = 0 then s.now else s.told) = s.now
        unfold CS.end_
        split
        · intro _; rfl
        · exact h.told
    · refine ⟨h.ok.put t i v, (s.c.put_s t i v).trans h.cs, ?_, ?_⟩
      · show (if s.c.putE t i = 0 then s.now.set i.toNat v else s.now) = (s.c.put t i v).ws.take n
        unfold CS.put
        split
        · show s.now.set i.toNat v = (s.c.ws.set i.toNat v).take n
          rw [h.now, List.take_set]
        · exact h.now
      · show (s.c.put t i v).t = 0 → s.told = (if s.c.putE t i = 0 then s.now.set i.toNat v else s.now)
        unfold CS.put
        split
        · rename_i he
          intro h0
          simp only at h0
          unfold CS.putE at he
          split at he
          · cases he
          · split at he
            · cases he
            · omega
        · exact h.told

theorem WS.write_q (s : WS) (d : Nat) (t i v : Int) : s.c.q ≤ (s.write d t i v).c.q ∧ (s.write d t i v).c.q ≤ s.c.q + 1 := by
  unfold WS.write
  split
  · exact ⟨by show s.c.q ≤ (s.c.begin t).q; unfold CS.begin; split <;> simp, s.c.begin_q t⟩
  · split
    · exact ⟨by show s.c.q ≤ (s.c.end_ t).q; unfold CS.end_; split <;> simp, s.c.end_q t⟩
    · have := s.c.put_q t i v
      exact ⟨by show s.c.q ≤ (s.c.put t i v).q; omega, by show (s.c.put t i v).q ≤ _; omega⟩

/-- Nobody writes, and the number stays: nothing was done. -/
theorem WS.write_still {s : WS} {d : Nat} {t i v : Int} (h0 : s.c.t = 0) (hq : (s.write d t i v).c.q = s.c.q) : (s.write d t i v).c = s.c := by
  unfold WS.write at hq ⊢
  split
  · rename_i hd
    rw [if_pos hd] at hq
    show s.c.begin t = s.c
    change (s.c.begin t).q = s.c.q at hq
    unfold CS.begin at hq ⊢
    split
    · rename_i he; rw [if_pos he] at hq; simp at hq
    · rfl
  · split
    · show s.c.end_ t = s.c
      have : s.c.endE t ≠ 0 := fun h => by
        unfold CS.endE at h
        by_cases h1 : t < 1
        · rw [if_pos h1] at h; cases h
        · rw [if_neg h1, if_pos (by omega)] at h; cases h
      exact if_neg this
    · show s.c.put t i v = s.c
      have : s.c.putE t i ≠ 0 := fun h => by
        unfold CS.putE at h
        by_cases h1 : t < 1 ∨ i < 0 ∨ (s.c.s : Int) ≤ i
        · rw [if_pos h1] at h; cases h
        · rw [if_neg h1, if_pos (by omega)] at h; cases h
      exact if_neg this

/-- What a reader has: words read while the cell was c0, or the number has gone on. -/
def ReadInv (c0 : CS) (k : Nat) (c : CS) (gl : List Int) : Prop := c0.q ≤ c.q ∧ gl.length = k ∧ (c.q = c0.q → c = c0 ∧ gl = c0.ws.take k)

theorem ReadInv.write {c0 : CS} {k : Nat} {s : WS} {gl : List Int} (h : ReadInv c0 k s.c gl) (h0 : c0.t = 0) (d : Nat) (t i v : Int) : ReadInv c0 k (s.write d t i v).c gl := by
  have hq := (s.write_q d t i v).1
  have h1 := h.1
  refine ⟨by omega, h.2.1, fun he => ?_⟩
  obtain ⟨e1, e2⟩ := h.2.2 (by omega)
  exact ⟨(WS.write_still (by rw [e1]; exact h0) (by omega)).trans e1, e2⟩

theorem ReadInv.read {c0 c : CS} {k : Nat} {gl : List Int} (h : ReadInv c0 k c gl) (hk : k < c0.ws.length) : ReadInv c0 (k + 1) c (gl ++ [c.ws.getD k 0]) := by
  refine ⟨h.1, by simp [h.2.1], fun he => ?_⟩
  obtain ⟨e1, e2⟩ := h.2.2 he
  refine ⟨e1, ?_⟩
  rw [e2, e1, List.take_add_one, List.getElem?_eq_getElem hk]
  simp [List.getD_eq_getElem?_getD, hk]

theorem ReadInv.done {c0 c : CS} {n : Nat} {gl : List Int} (h : ReadInv c0 n c gl) (hq : c.q = c0.q) : gl = c0.ws.take n := (h.2.2 hq).2
end Go.Proofs.Ytniiefcbiapieaa
