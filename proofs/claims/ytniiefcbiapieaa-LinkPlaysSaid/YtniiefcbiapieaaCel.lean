/- What the cell's functions do: contracts over named objects. -/
import Derived.Test.YtniiefcbiapieaaSlc
import Derived.Test.YtniiefcbiapieaaProg
import Derived.WalkKit
import Derived.Outline
import Derived.BigRegion
import Derived.KernelRfl
import Derived.Deep.QuietTactic
import Derived.BigQuiet
import Derived.WalkLawsBesides
namespace Go.Proofs.Ytniiefcbiapieaa
open Go.RowKit

/-- A cell: its words (four, of which s are its own), how many, its number, who writes. -/
structure CS where
  ws : List Int
  s : Nat
  q : Nat
  t : Int

structure CS.Ok (c : CS) : Prop where
  len : c.ws.length = 4
  lo : 1 ≤ c.s
  hi : c.s ≤ 4
  t0 : 0 ≤ c.t
  small : c.q < 1000

def cellArr (c : CS) : Array Value := (c.ws.map (Value.int .i64) ++ [Value.int .i64 c.s, Value.int .i64 c.q, Value.int .i64 c.t]).toArray
def cellO (c : CS) : Obj := .cells (cellArr c) 98 (0, 0)

def CS.new (s : Nat) : CS := ⟨[0, 0, 0, 0], s, 0, 0⟩
def CS.beginE (c : CS) (t : Int) : Int := if t < 1 then 1 else if c.t = t then 11 else if c.t ≠ 0 then 12 else 0
def CS.begin (c : CS) (t : Int) : CS := if c.beginE t = 0 then { c with t := t, q := c.q + 1 } else c
def CS.putE (c : CS) (t i : Int) : Int := if t < 1 ∨ i < 0 ∨ c.s ≤ i then 1 else if c.t ≠ t then 11 else 0
def CS.put (c : CS) (t i v : Int) : CS := if c.putE t i = 0 then { c with ws := c.ws.set i.toNat v } else c
def CS.endE (c : CS) (t : Int) : Int := if t < 1 then 1 else if c.t ≠ t then 11 else 0
def CS.end_ (c : CS) (t : Int) : CS := if c.endE t = 0 then { c with t := 0, q := c.q + 1 } else c
def CS.startN (c : CS) : Int := if c.t ≠ 0 then 0 else c.q
def CS.startE (c : CS) : Int := if c.t ≠ 0 then 17 else 0
def CS.wordN (c : CS) (i : Int) : Int := if i < 0 ∨ c.s ≤ i then 0 else c.ws.getD i.toNat 0
def CS.wordE (c : CS) (i : Int) : Int := if i < 0 ∨ c.s ≤ i then 1 else 0
def CS.sameE (c : CS) (seq : Int) : Int := if (c.q : Int) ≠ seq ∨ c.t ≠ 0 then 17 else 0

theorem cellArr_word {c : CS} (h : c.Ok) (i : Nat) (hi : i < 4) : (cellArr c)[i]? = some (.int .i64 (c.ws.getD i 0)) := by
  have : i < c.ws.length := by rw [h.len]; exact hi
  simp [cellArr, this, List.getElem?_append_left]
theorem cellArr_size {c : CS} (h : c.Ok) : (cellArr c)[4]? = some (.int .i64 c.s) := by simp [cellArr, h.len]
theorem cellArr_seq {c : CS} (h : c.Ok) : (cellArr c)[5]? = some (.int .i64 c.q) := by simp [cellArr, h.len]
theorem cellArr_writer {c : CS} (h : c.Ok) : (cellArr c)[6]? = some (.int .i64 c.t) := by simp [cellArr, h.len]

theorem cellO_word {c : CS} (h : c.Ok) (i : Nat) (hi : i < 4) (v : Int) : Obj.cells ((cellArr c).setIfInBounds i (.int .i64 v)) 98 (0, 0) = cellO { c with ws := c.ws.set i v } := by
  unfold cellO cellArr
  congr 1
  simp only [List.setIfInBounds_toArray]
  congr 1
  rw [List.set_append_left _ _ (by simp [h.len]; omega)]
  simp [List.map_set]
theorem cellO_two {c : CS} (h : c.Ok) (t : Int) (q : Int) (q' : Nat) (hq : q = q') : Obj.cells (((cellArr c).setIfInBounds 6 (.int .i64 t)).setIfInBounds 5 (.int .i64 q)) 98 (0, 0) = cellO { c with t := t, q := q' } := by
  subst hq
  unfold cellO cellArr
  congr 1
  simp only [List.setIfInBounds_toArray]
  congr 1
  rw [List.set_append_right _ _ (by simp [h.len]), List.set_append_right _ _ (by simp [h.len])]
  simp [h.len]

theorem CS.Ok.begin {c : CS} (h : c.Ok) (t : Int) (hq : c.q < 999) : (c.begin t).Ok := by
  unfold CS.begin
  split
  · rename_i he
    have : ¬ t < 1 := fun ht => by unfold CS.beginE at he; rw [if_pos ht] at he; cases he
    exact ⟨h.len, h.lo, h.hi, by show 0 ≤ t; omega, by show c.q + 1 < 1000; omega⟩
  · exact h
theorem CS.Ok.end_ {c : CS} (h : c.Ok) (t : Int) (hq : c.q < 999) : (c.end_ t).Ok := by
  unfold CS.end_
  split
  · exact ⟨h.len, h.lo, h.hi, by show (0 : Int) ≤ 0; omega, by show c.q + 1 < 1000; omega⟩
  · exact h
theorem CS.Ok.put {c : CS} (h : c.Ok) (t i v : Int) : (c.put t i v).Ok := by
  unfold CS.put
  split
  · exact ⟨by show (c.ws.set _ _).length = 4; rw [List.length_set]; exact h.len, h.lo, h.hi, h.t0, h.small⟩
  · exact h
theorem CS.Ok.new {s : Nat} (h : 1 ≤ s ∧ s ≤ 4) : (CS.new s).Ok := ⟨rfl, h.1, h.2, by show (0 : Int) ≤ 0; omega, by show 0 < 1000; omega⟩
theorem CS.begin_q (c : CS) (t : Int) : (c.begin t).q ≤ c.q + 1 := by unfold CS.begin; split <;> simp
theorem CS.end_q (c : CS) (t : Int) : (c.end_ t).q ≤ c.q + 1 := by unfold CS.end_; split <;> simp
theorem CS.put_q (c : CS) (t i v : Int) : (c.put t i v).q = c.q := by unfold CS.put; split <;> rfl
theorem CS.begin_s (c : CS) (t : Int) : (c.begin t).s = c.s := by unfold CS.begin; split <;> rfl
theorem CS.end_s (c : CS) (t : Int) : (c.end_ t).s = c.s := by unfold CS.end_; split <;> rfl
theorem CS.put_s (c : CS) (t i v : Int) : (c.put t i v).s = c.s := by unfold CS.put; split <;> rfl

/-- One answer; two. -/
def ans (e : Int) : Ending := .returned (.int .i64 e)
def ans2 (n e : Int) : Ending := .returned (.tuple #[.int .i64 n, .int .i64 e])
theorem ans_eq (e : Int) : ans e = .returned (.int .i64 e) := rfl
theorem ans2_eq (n e : Int) : ans2 n e = .returned (.tuple #[.int .i64 n, .int .i64 e]) := rfl

/-- How many words a cell of a size has. -/
def clampC (size : Int) : Nat := if size < 1 then 1 else if 4 < size then 4 else size.toNat
theorem clampC_bounds (size : Int) : 1 ≤ clampC size ∧ clampC size ≤ 4 := by
  unfold clampC; split <;> (try split) <;> omega

theorem put_id {γ : Nat → Option (Nat × Obj)} {t g : Nat} {o : Obj} (h : γ t = some (g, o)) : Go.Proofs.Ytniiefcbiapieaa.put γ t g o = γ := by
  funext k
  by_cases e : k = t
  · subst e; rw [put_same, h]
  · rw [put_other _ _ _ e]

theorem cellNew_any {w0 w : World} {γ : Nat → Option (Nat × Obj)} (hs : Own w0 w γ) (tg : Nat) (size : Int) :
    Calls Try.prog 26 #[.int .i64 size] w fun e w' => ∃ g, e = .returned (.pointer (some ⟨g, 0, none⟩)) ∧ Own w0 w' (Go.Proofs.Ytniiefcbiapieaa.put γ tg g (cellO (CS.new (clampC size)))) := by
  have fin : ∀ k : Nat, clampC size = k → (∃ g, Ending.returned (.pointer (some ⟨w.heap.size, 0, none⟩)) = Ending.returned (.pointer (some ⟨g, 0, none⟩)) ∧
      Own w0 (w.alloc (.cells #[.int .i64 0, .int .i64 0, .int .i64 0, .int .i64 0, .int .i64 k, .int .i64 0, .int .i64 0] 98)) (Go.Proofs.Ytniiefcbiapieaa.put γ tg g (cellO (CS.new (clampC size))))) := by
    intro k hk
    subst hk
    exact ⟨_, rfl, hs.new _ _⟩
  by_cases a1 : size ≤ 1
  · have hk := fin 1 (by unfold clampC; split <;> (try split) <;> omega)
    go_enter Try.func26, Try.ntmps26
    go_wp2
    all_goals go_ret
    all_goals exact hk
  · by_cases a8 : 4 < size
    · have hk := fin 4 (by unfold clampC; rw [if_neg (by omega), if_pos (by omega)])
      go_enter Try.func26, Try.ntmps26
      go_wp2
      all_goals go_ret
      all_goals exact hk
    · obtain ⟨k, rfl⟩ : ∃ k : Nat, size = k := ⟨size.toNat, by omega⟩
      have hk := fin k (by unfold clampC; rw [if_neg (by omega), if_neg (by omega)]; omega)
      go_enter Try.func26, Try.ntmps26
      go_wp2
      all_goals go_ret
      all_goals exact hk

section
variable {w0 w : World} {γ : Nat → Option (Nat × Obj)} {tg g : Nat} {c : CS}

theorem cellWriter_any (hs : Own w0 w γ) (hg : γ tg = some (g, cellO c)) (hc : c.Ok) : Calls Try.prog 29 #[.pointer (some ⟨g, 0, none⟩)] w fun e w' => e = ans c.t ∧ w = w' := by
  have c4 : w.cell? ⟨g, 4, none⟩ = some (.int .i64 c.s) := hs.cell hg (cellArr_size hc)
  have c5 : w.cell? ⟨g, 5, none⟩ = some (.int .i64 c.q) := hs.cell hg (cellArr_seq hc)
  have c6 : w.cell? ⟨g, 6, none⟩ = some (.int .i64 c.t) := hs.cell hg (cellArr_writer hc)
  have hq := hc.small
  have ht0 := hc.t0
  obtain ⟨ws, s, q, t⟩ := c
  simp only [] at c4 c5 c6 hq ht0
  go_enter Try.func29, Try.ntmps29
  go_wp2
  go_ret
  exact ⟨rfl, rfl⟩

theorem cellSize_any (hs : Own w0 w γ) (hg : γ tg = some (g, cellO c)) (hc : c.Ok) : Calls Try.prog 30 #[.pointer (some ⟨g, 0, none⟩)] w fun e w' => e = ans c.s ∧ w = w' := by
  have c4 : w.cell? ⟨g, 4, none⟩ = some (.int .i64 c.s) := hs.cell hg (cellArr_size hc)
  have c5 : w.cell? ⟨g, 5, none⟩ = some (.int .i64 c.q) := hs.cell hg (cellArr_seq hc)
  have c6 : w.cell? ⟨g, 6, none⟩ = some (.int .i64 c.t) := hs.cell hg (cellArr_writer hc)
  have hq := hc.small
  have ht0 := hc.t0
  obtain ⟨ws, s, q, t⟩ := c
  simp only [] at c4 c5 c6 hq ht0
  go_enter Try.func30, Try.ntmps30
  go_wp2
  go_ret
  exact ⟨rfl, rfl⟩

theorem cellIs_any (hs : Own w0 w γ) (hg : γ tg = some (g, cellO c)) (hc : c.Ok) (i : Int) : Calls Try.prog 56 #[.pointer (some ⟨g, 0, none⟩), .int .i64 i] w fun e w' => e = .returned (.bool (decide (0 ≤ i ∧ i < c.s))) ∧ w = w' := by
  have c4 : w.cell? ⟨g, 4, none⟩ = some (.int .i64 c.s) := hs.cell hg (cellArr_size hc)
  have c5 : w.cell? ⟨g, 5, none⟩ = some (.int .i64 c.q) := hs.cell hg (cellArr_seq hc)
  have c6 : w.cell? ⟨g, 6, none⟩ = some (.int .i64 c.t) := hs.cell hg (cellArr_writer hc)
  have hq := hc.small
  have ht0 := hc.t0
  obtain ⟨ws, s, q, t⟩ := c
  simp only [] at c4 c5 c6 hq ht0
  by_cases h0 : 0 ≤ i
  · have d0 : decide (0 ≤ i) = true := by simpa using h0
    have e1 : decide (0 ≤ i ∧ i < (s : Int)) = decide (i < (s : Int)) := by simp [h0]
    rw [e1]
    go_enter Try.func56, Try.ntmps56
    go_wp2
    go_ret
    exact ⟨rfl, rfl⟩
  · have d0 : decide (0 ≤ i) = false := by simpa using h0
    have e1 : decide (0 ≤ i ∧ i < (s : Int)) = false := by simp [h0]
    rw [e1]
    go_enter Try.func56, Try.ntmps56
    go_wp2
    go_ret
    exact ⟨rfl, rfl⟩

theorem cellStart_any (hs : Own w0 w γ) (hg : γ tg = some (g, cellO c)) (hc : c.Ok) : Calls Try.prog 33 #[.pointer (some ⟨g, 0, none⟩)] w fun e w' => e = ans2 c.startN c.startE ∧ w = w' := by
  have c4 : w.cell? ⟨g, 4, none⟩ = some (.int .i64 c.s) := hs.cell hg (cellArr_size hc)
  have c5 : w.cell? ⟨g, 5, none⟩ = some (.int .i64 c.q) := hs.cell hg (cellArr_seq hc)
  have c6 : w.cell? ⟨g, 6, none⟩ = some (.int .i64 c.t) := hs.cell hg (cellArr_writer hc)
  have hq := hc.small
  have ht0 := hc.t0
  obtain ⟨ws, s, q, t⟩ := c
  simp only [] at c4 c5 c6 hq ht0
  by_cases h : t = 0
  · subst h
    show Calls _ _ _ _ (fun e w' => e = ans2 q 0 ∧ w = w')
    go_enter Try.func33, Try.ntmps33
    go_wp2
    go_ret2
    exact ⟨rfl, rfl⟩
  · have hb : (t == 0) = false := by simpa using h
    have hb2 : (t != 0) = true := by simpa using h
    rw [show CS.startN ⟨ws, s, q, t⟩ = 0 from if_pos h, show CS.startE ⟨ws, s, q, t⟩ = 17 from if_pos h]
    go_enter Try.func33, Try.ntmps33
    go_wp2
    go_ret2
    exact ⟨rfl, rfl⟩

theorem cellSame_any (hs : Own w0 w γ) (hg : γ tg = some (g, cellO c)) (hc : c.Ok) (n : Int) : Calls Try.prog 35 #[.pointer (some ⟨g, 0, none⟩), .int .i64 n] w fun e w' => e = ans (c.sameE n) ∧ w = w' := by
  have c4 : w.cell? ⟨g, 4, none⟩ = some (.int .i64 c.s) := hs.cell hg (cellArr_size hc)
  have c5 : w.cell? ⟨g, 5, none⟩ = some (.int .i64 c.q) := hs.cell hg (cellArr_seq hc)
  have c6 : w.cell? ⟨g, 6, none⟩ = some (.int .i64 c.t) := hs.cell hg (cellArr_writer hc)
  have hq := hc.small
  have ht0 := hc.t0
  obtain ⟨ws, s, q, t⟩ := c
  simp only [] at c4 c5 c6 hq ht0
  by_cases h1 : (q : Int) = n
  · subst h1
    by_cases h : t = 0
    · subst h
      rw [show CS.sameE ⟨ws, s, q, 0⟩ q = 0 from if_neg (by simp)]
      go_enter Try.func35, Try.ntmps35
      go_wp2
      go_ret
      exact ⟨rfl, rfl⟩
    · have hb : (t == 0) = false := by simpa using h
      have hb2 : (t != 0) = true := by simpa using h
      rw [show CS.sameE ⟨ws, s, q, t⟩ q = 17 from if_pos (.inr h)]
      go_enter Try.func35, Try.ntmps35
      go_wp2
      go_ret
      exact ⟨rfl, rfl⟩
  · have hb : ((q : Int) == n) = false := by simpa using h1
    have hb2 : ((q : Int) != n) = true := by simpa using h1
    rw [show CS.sameE ⟨ws, s, q, t⟩ n = 17 from if_pos (.inl h1)]
    go_enter Try.func35, Try.ntmps35
    go_wp2
    go_ret
    exact ⟨rfl, rfl⟩

theorem cellWord_any (hs : Own w0 w γ) (hg : γ tg = some (g, cellO c)) (hc : c.Ok) (i : Int) : Calls Try.prog 34 #[.pointer (some ⟨g, 0, none⟩), .int .i64 i] w fun e w' => e = ans2 (c.wordN i) (c.wordE i) ∧ w = w' := by
  have hi := cellIs_any hs hg hc i
  by_cases h : i < 0 ∨ (c.s : Int) ≤ i
  · rw [show c.wordN i = 0 from if_pos h, show c.wordE i = 1 from if_pos h]
    rw [show decide (0 ≤ i ∧ i < (c.s : Int)) = false by simp; omega] at hi
    go_enter Try.func34, Try.ntmps34
    go_wp2_with fail
    refine hi.mono ?_
    rintro e w1 ⟨rfl, rfl⟩
    go_wp2
    go_ret2
    exact ⟨rfl, rfl⟩
  · rw [show c.wordN i = c.ws.getD i.toNat 0 from if_neg h, show c.wordE i = 0 from if_neg h]
    rw [show decide (0 ≤ i ∧ i < (c.s : Int)) = true by simp; omega] at hi
    have hh := hc.hi
    have i0 : 0 ≤ i := by omega
    have i4 : i < 4 := by omega
    have ci : w.cell? ⟨g, i.toNat, none⟩ = some (.int .i64 (c.ws.getD i.toNat 0)) := hs.cell hg (cellArr_word hc i.toNat (by omega))
    generalize c.ws.getD i.toNat 0 = u at ci ⊢
    go_enter Try.func34, Try.ntmps34
    go_wp2_with fail
    refine hi.mono ?_
    rintro e w1 ⟨rfl, rfl⟩
    clear h hs hg
    go_wp2
    go_ret2
    exact ⟨rfl, rfl⟩

theorem cellBegin_any (hs : Own w0 w γ) (hg : γ tg = some (g, cellO c)) (hc : c.Ok) (t' : Int) : Calls Try.prog 36 #[.pointer (some ⟨g, 0, none⟩), .int .i64 t'] w fun e w' => e = ans (c.beginE t') ∧ Own w0 w' (Go.Proofs.Ytniiefcbiapieaa.put γ tg g (cellO (c.begin t'))) := by
  have same : c.begin t' = c → Own w0 w (Go.Proofs.Ytniiefcbiapieaa.put γ tg g (cellO (c.begin t'))) := fun h => by rw [h, put_id hg]; exact hs
  have hnew : c.beginE t' = 0 → Own w0 ((w.setCell ⟨g, 6, none⟩ (.int .i64 t')).setCell ⟨g, 5, none⟩ (.int .i64 ((c.q : Int) + 1))) (Go.Proofs.Ytniiefcbiapieaa.put γ tg g (cellO (c.begin t'))) := fun h => by
    have h2 := (hs.set hg 6 (.int .i64 t')).set (put_same _ _ _ _) 5 (.int .i64 ((c.q : Int) + 1))
    rw [put_put, cellO_two hc t' _ (c.q + 1) (by omega)] at h2
    rw [show c.begin t' = { c with t := t', q := c.q + 1 } from if_pos h]
    exact h2
  have f6 := hs.free hg 6
  have f5 := hs.free hg 5
  have hsame : ∀ {x : Int}, c.beginE t' = x → x ≠ 0 → c.begin t' = c := fun h hx => if_neg (by rw [h]; exact hx)
  have c4 : w.cell? ⟨g, 4, none⟩ = some (.int .i64 c.s) := hs.cell hg (cellArr_size hc)
  have c5 : w.cell? ⟨g, 5, none⟩ = some (.int .i64 c.q) := hs.cell hg (cellArr_seq hc)
  have c6 : w.cell? ⟨g, 6, none⟩ = some (.int .i64 c.t) := hs.cell hg (cellArr_writer hc)
  have hq := hc.small
  have ht0 := hc.t0
  obtain ⟨ws, s, q, t⟩ := c
  simp only [] at c4 c5 c6 hq ht0
  by_cases h1 : t' < 1
  · have d1 : decide (t' < 1) = true := by simpa using h1
    have he : CS.beginE ⟨ws, s, q, t⟩ t' = 1 := if_pos h1
    have hfin := same (hsame he (by omega))
    rw [he]
    generalize Go.Proofs.Ytniiefcbiapieaa.put γ tg g (cellO (CS.begin ⟨ws, s, q, t⟩ t')) = γ' at *
    clear hnew same hsame he
    go_enter Try.func36, Try.ntmps36
    go_wp2
    go_ret
    exact ⟨rfl, hfin⟩
  · have d1 : decide (t' < 1) = false := by simpa using h1
    by_cases h2 : t = t'
    · subst h2
      have he : CS.beginE ⟨ws, s, q, t⟩ t = 11 := by unfold CS.beginE; rw [if_neg h1, if_pos rfl]
      have hfin := same (hsame he (by omega))
      rw [he]
      generalize Go.Proofs.Ytniiefcbiapieaa.put γ tg g (cellO (CS.begin ⟨ws, s, q, t⟩ t)) = γ' at *
      clear hnew same hsame he
      go_enter Try.func36, Try.ntmps36
      go_wp2
      go_ret
      exact ⟨rfl, hfin⟩
    · have d2 : (t == t') = false := by simpa using h2
      by_cases h3 : t = 0
      · subst h3
        have he : CS.beginE ⟨ws, s, q, 0⟩ t' = 0 := by
          unfold CS.beginE
          rw [if_neg h1]
          show (if (0 : Int) = t' then (11 : Int) else if (0 : Int) ≠ 0 then 12 else 0) = 0
          rw [if_neg h2, if_neg (by simp)]
        have hfin := hnew he
        rw [he]
        generalize Go.Proofs.Ytniiefcbiapieaa.put γ tg g (cellO (CS.begin ⟨ws, s, q, 0⟩ t')) = γ' at *
        simp only [] at hfin
        obtain ⟨qi, hqi⟩ : ∃ qi : Int, qi = q := ⟨_, rfl⟩
        rw [← hqi] at c5 hfin
        have q0 : 0 ≤ qi := by omega
        have q1 : qi < 1000 := by omega
        have dq : decide ((1048576 : Int) ≤ qi) = false := by simp; omega
        clear hnew same hsame he hqi hq
        go_enter Try.func36, Try.ntmps36
        go_wp2
        go_ret
        exact ⟨rfl, hfin⟩
      · have d3 : (t == 0) = false := by simpa using h3
        have d4 : (t != 0) = true := by simpa using h3
        have he : CS.beginE ⟨ws, s, q, t⟩ t' = 12 := by
          unfold CS.beginE
          rw [if_neg h1]
          show (if t = t' then (11 : Int) else if t ≠ 0 then 12 else 0) = 12
          rw [if_neg h2, if_pos h3]
        have hfin := same (hsame he (by omega))
        rw [he]
        generalize Go.Proofs.Ytniiefcbiapieaa.put γ tg g (cellO (CS.begin ⟨ws, s, q, t⟩ t')) = γ' at *
        clear hnew same hsame he
        go_enter Try.func36, Try.ntmps36
        go_wp2
        go_ret
        exact ⟨rfl, hfin⟩

theorem cellEnd_any (hs : Own w0 w γ) (hg : γ tg = some (g, cellO c)) (hc : c.Ok) (t' : Int) : Calls Try.prog 38 #[.pointer (some ⟨g, 0, none⟩), .int .i64 t'] w fun e w' => e = ans (c.endE t') ∧ Own w0 w' (Go.Proofs.Ytniiefcbiapieaa.put γ tg g (cellO (c.end_ t'))) := by
  have same : c.end_ t' = c → Own w0 w (Go.Proofs.Ytniiefcbiapieaa.put γ tg g (cellO (c.end_ t'))) := fun h => by rw [h, put_id hg]; exact hs
  have hnew : c.endE t' = 0 → Own w0 ((w.setCell ⟨g, 6, none⟩ (.int .i64 0)).setCell ⟨g, 5, none⟩ (.int .i64 ((c.q : Int) + 1))) (Go.Proofs.Ytniiefcbiapieaa.put γ tg g (cellO (c.end_ t'))) := fun h => by
    have h2 := (hs.set hg 6 (.int .i64 0)).set (put_same _ _ _ _) 5 (.int .i64 ((c.q : Int) + 1))
    rw [put_put, cellO_two hc 0 _ (c.q + 1) (by omega)] at h2
    rw [show c.end_ t' = { c with t := 0, q := c.q + 1 } from if_pos h]
    exact h2
  have f6 := hs.free hg 6
  have f5 := hs.free hg 5
  have hsame : ∀ {x : Int}, c.endE t' = x → x ≠ 0 → c.end_ t' = c := fun h hx => if_neg (by rw [h]; exact hx)
  have c4 : w.cell? ⟨g, 4, none⟩ = some (.int .i64 c.s) := hs.cell hg (cellArr_size hc)
  have c5 : w.cell? ⟨g, 5, none⟩ = some (.int .i64 c.q) := hs.cell hg (cellArr_seq hc)
  have c6 : w.cell? ⟨g, 6, none⟩ = some (.int .i64 c.t) := hs.cell hg (cellArr_writer hc)
  have hq := hc.small
  have ht0 := hc.t0
  obtain ⟨ws, s, q, t⟩ := c
  simp only [] at c4 c5 c6 hq ht0
  by_cases h1 : t' < 1
  · have d1 : decide (t' < 1) = true := by simpa using h1
    have he : CS.endE ⟨ws, s, q, t⟩ t' = 1 := if_pos h1
    have hfin := same (hsame he (by omega))
    rw [he]
    generalize Go.Proofs.Ytniiefcbiapieaa.put γ tg g (cellO (CS.end_ ⟨ws, s, q, t⟩ t')) = γ' at *
    clear hnew same hsame he
    go_enter Try.func38, Try.ntmps38
    go_wp2
    go_ret
    exact ⟨rfl, hfin⟩
  · have d1 : decide (t' < 1) = false := by simpa using h1
    by_cases h2 : t = t'
    · subst h2
      have he : CS.endE ⟨ws, s, q, t⟩ t = 0 := by unfold CS.endE; rw [if_neg h1]; exact if_neg (fun h => h rfl)
      have hfin := hnew he
      rw [he]
      generalize Go.Proofs.Ytniiefcbiapieaa.put γ tg g (cellO (CS.end_ ⟨ws, s, q, t⟩ t)) = γ' at *
      simp only [] at hfin
      clear hnew same hsame he
      go_enter Try.func38, Try.ntmps38
      go_wp2
      go_ret
      exact ⟨rfl, hfin⟩
    · have d2 : (t == t') = false := by simpa using h2
      have d3 : (t != t') = true := by simpa using h2
      have he : CS.endE ⟨ws, s, q, t⟩ t' = 11 := by unfold CS.endE; rw [if_neg h1]; exact if_pos h2
      have hfin := same (hsame he (by omega))
      rw [he]
      generalize Go.Proofs.Ytniiefcbiapieaa.put γ tg g (cellO (CS.end_ ⟨ws, s, q, t⟩ t')) = γ' at *
      clear hnew same hsame he
      go_enter Try.func38, Try.ntmps38
      go_wp2
      go_ret
      exact ⟨rfl, hfin⟩

theorem cellPut_any (hs : Own w0 w γ) (hg : γ tg = some (g, cellO c)) (hc : c.Ok) (t' i v : Int) : Calls Try.prog 37 #[.pointer (some ⟨g, 0, none⟩), .int .i64 t', .int .i64 i, .int .i64 v] w fun e w' => e = ans (c.putE t' i) ∧ Own w0 w' (Go.Proofs.Ytniiefcbiapieaa.put γ tg g (cellO (c.put t' i v))) := by
  have same : c.put t' i v = c → Own w0 w (Go.Proofs.Ytniiefcbiapieaa.put γ tg g (cellO (c.put t' i v))) := fun h => by rw [h, put_id hg]; exact hs
  have hsame : ∀ {x : Int}, c.putE t' i = x → x ≠ 0 → c.put t' i v = c := fun h hx => if_neg (by rw [h]; exact hx)
  have hi := cellIs_any hs hg hc i
  have c6 : w.cell? ⟨g, 6, none⟩ = some (.int .i64 c.t) := hs.cell hg (cellArr_writer hc)
  by_cases h1 : t' < 1
  · have d1 : decide (t' < 1) = true := by simpa using h1
    have he : c.putE t' i = 1 := if_pos (.inl h1)
    have hfin := same (hsame he (by omega))
    rw [he]
    generalize Go.Proofs.Ytniiefcbiapieaa.put γ tg g (cellO (c.put t' i v)) = γ' at *
    clear same hsame he hi
    go_enter Try.func37, Try.ntmps37
    go_wp2
    go_ret
    exact ⟨rfl, hfin⟩
  · have d1 : decide (t' < 1) = false := by simpa using h1
    by_cases h2 : i < 0 ∨ (c.s : Int) ≤ i
    · have he : c.putE t' i = 1 := if_pos (.inr h2)
      have hfin := same (hsame he (by omega))
      rw [he]
      rw [show decide (0 ≤ i ∧ i < (c.s : Int)) = false by simp; omega] at hi
      generalize Go.Proofs.Ytniiefcbiapieaa.put γ tg g (cellO (c.put t' i v)) = γ' at *
      clear same hsame he h2
      go_enter Try.func37, Try.ntmps37
      go_wp2_with fail
      refine hi.mono ?_
      rintro e w1 ⟨rfl, rfl⟩
      go_wp2
      go_ret
      exact ⟨rfl, hfin⟩
    · rw [show decide (0 ≤ i ∧ i < (c.s : Int)) = true by simp; omega] at hi
      by_cases h3 : c.t = t'
      · have he : c.putE t' i = 0 := by
          unfold CS.putE
          rw [if_neg (by omega), if_neg (by simpa using h3)]
        have i0 : 0 ≤ i := by omega
        have hh := hc.hi
        have i4 : i < 4 := by omega
        have ci : w.cell? ⟨g, i.toNat, none⟩ = some (.int .i64 (c.ws.getD i.toNat 0)) := hs.cell hg (cellArr_word hc i.toNat (by omega))
        have fi := hs.free hg i.toNat
        have hfin := hs.set hg i.toNat (.int .i64 v)
        rw [cellO_word hc i.toNat (by omega) v] at hfin
        rw [show c.put t' i v = { c with ws := c.ws.set i.toNat v } from if_pos he, he]
        generalize Go.Proofs.Ytniiefcbiapieaa.put γ tg g (cellO { c with ws := c.ws.set i.toNat v }) = γ' at *
        generalize c.ws.getD i.toNat 0 = u at ci
        generalize c.t = t at *
        subst h3
        clear same hsame he h2 hs hg
        go_enter Try.func37, Try.ntmps37
        go_wp2_with fail
        refine hi.mono ?_
        rintro e w1 ⟨rfl, rfl⟩
        clear hi
        go_wp2
        go_ret
        exact ⟨rfl, hfin⟩
      · have d2 : (c.t == t') = false := by simpa using h3
        have d3 : (c.t != t') = true := by simpa using h3
        have he : c.putE t' i = 11 := by
          unfold CS.putE
          rw [if_neg (by omega), if_pos h3]
        have hfin := same (hsame he (by omega))
        rw [he]
        generalize Go.Proofs.Ytniiefcbiapieaa.put γ tg g (cellO (c.put t' i v)) = γ' at *
        clear same hsame he h2
        go_enter Try.func37, Try.ntmps37
        go_wp2_with fail
        refine hi.mono ?_
        rintro e w1 ⟨rfl, rfl⟩
        go_wp2
        go_ret
        exact ⟨rfl, hfin⟩
end

theorem cellStart_nil (w : World) : Calls Try.prog 33 #[.pointer none] w fun e w' => e = ans2 0 1 ∧ w = w' := by
  go_enter Try.func33, Try.ntmps33
  go_wp2
  go_ret2
  exact ⟨rfl, rfl⟩

theorem cellBegin_nil (a : Int) (w : World) : Calls Try.prog 36 #[.pointer none, .int .i64 a] w fun e w' => e = ans 1 ∧ w = w' := by
  go_enter Try.func36, Try.ntmps36
  go_wp2
  go_ret
  exact ⟨rfl, rfl⟩

theorem cellEnd_nil (a : Int) (w : World) : Calls Try.prog 38 #[.pointer none, .int .i64 a] w fun e w' => e = ans 1 ∧ w = w' := by
  go_enter Try.func38, Try.ntmps38
  go_wp2
  go_ret
  exact ⟨rfl, rfl⟩

theorem cellSame_nil (a : Int) (w : World) : Calls Try.prog 35 #[.pointer none, .int .i64 a] w fun e w' => e = ans 1 ∧ w = w' := by
  go_enter Try.func35, Try.ntmps35
  go_wp2
  go_ret
  exact ⟨rfl, rfl⟩

theorem cellWriter_nil (w : World) : Calls Try.prog 29 #[.pointer none] w fun e w' => e = ans 0 ∧ w = w' := by
  go_enter Try.func29, Try.ntmps29
  go_wp2
  go_ret
  exact ⟨rfl, rfl⟩

theorem cellSize_nil (w : World) : Calls Try.prog 30 #[.pointer none] w fun e w' => e = ans 0 ∧ w = w' := by
  go_enter Try.func30, Try.ntmps30
  go_wp2
  go_ret
  exact ⟨rfl, rfl⟩

theorem cellIs_nil (a : Int) (w : World) : Calls Try.prog 56 #[.pointer none, .int .i64 a] w fun e w' => e = .returned (.bool false) ∧ w = w' := by
  go_enter Try.func56, Try.ntmps56
  go_wp2
  go_ret
  exact ⟨rfl, rfl⟩

theorem cellWord_nil (a : Int) (w : World) : Calls Try.prog 34 #[.pointer none, .int .i64 a] w fun e w' => e = ans2 0 1 ∧ w = w' := by
  go_enter Try.func34, Try.ntmps34
  go_wp2_with fail
  refine (cellIs_nil a _).mono ?_
  rintro e w1 ⟨rfl, rfl⟩
  go_wp2
  go_ret2
  exact ⟨rfl, rfl⟩
theorem cellPut_nil (t i v : Int) (w : World) : Calls Try.prog 37 #[.pointer none, .int .i64 t, .int .i64 i, .int .i64 v] w fun e w' => e = ans 1 ∧ w = w' := by
  by_cases h : t < 1
  · have d : decide (t < 1) = true := by simpa using h
    go_enter Try.func37, Try.ntmps37
    go_wp2
    go_ret
    exact ⟨rfl, rfl⟩
  · have d : decide (t < 1) = false := by simpa using h
    go_enter Try.func37, Try.ntmps37
    go_wp2_with fail
    refine (cellIs_nil i _).mono ?_
    rintro e w1 ⟨rfl, rfl⟩
    go_wp2
    go_ret
    exact ⟨rfl, rfl⟩
end Go.Proofs.Ytniiefcbiapieaa
