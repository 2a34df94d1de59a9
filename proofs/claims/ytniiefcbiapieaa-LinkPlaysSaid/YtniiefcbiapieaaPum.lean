/- What the pump's functions do: contracts over named objects. -/
import Derived.Test.YtniiefcbiapieaaOwn
import Derived.Test.YtniiefcbiapieaaProg
import Derived.WalkKit
import Derived.Outline
import Derived.BigRegion
import Derived.KernelRfl
import Derived.Deep.QuietTactic
import Derived.BigQuiet
import Derived.WalkLawsBesides

namespace Go.Proofs.Ytniiefcbiapieaa
open Go.RowKit

/-- The ring behind all that was sent. -/
def ringOf (s : Nat) (all : List Int) : List Int := (all.zipIdx).foldl (fun r x => r.set (x.2 % s) x.1) (List.replicate 8 0)

theorem ringOf_nil (s : Nat) : ringOf s [] = List.replicate 8 0 := rfl
theorem ringOf_snoc (s : Nat) (all : List Int) (v : Int) : ringOf s (all ++ [v]) = (ringOf s all).set (all.length % s) v := by
  unfold ringOf
  rw [List.zipIdx_append, List.foldl_append]
  simp

theorem snoc_ind {P : List Int → Prop} (h0 : P []) (h1 : ∀ l v, P l → P (l ++ [v])) (l : List Int) : P l := by
  rw [← List.reverse_reverse l]
  induction l.reverse with
  | nil => exact h0
  | cons a t ih => rw [List.reverse_cons]; exact h1 _ _ ih

theorem ringOf_length (s : Nat) (all : List Int) : (ringOf s all).length = 8 := by
  induction all using snoc_ind with
  | h0 => rfl
  | h1 l v ih => rw [ringOf_snoc, List.length_set, ih]

theorem ringOf_get (s : Nat) (h1 : 1 ≤ s) (h8 : s ≤ 8) (all : List Int) : ∀ i, i < all.length → all.length ≤ i + s → (ringOf s all).getD (i % s) 0 = all.getD i 0 := by
  induction all using snoc_ind with
  | h0 => intro i h; simp at h
  | h1 l v ih =>
    intro i hi hs
    rw [List.length_append, List.length_singleton] at hi hs
    rw [ringOf_snoc]
    have hlen := ringOf_length s l
    have hm : l.length % s < s := Nat.mod_lt _ (by omega)
    by_cases e : i = l.length
    · subst e
      rw [List.getD_eq_getElem?_getD, List.getElem?_set_self (by omega)]
      simp
    · have hlt : i < l.length := by omega
      have hne : l.length % s ≠ i % s := by
        intro he
        have h2 : (l.length - i) % s = 0 := Nat.sub_mod_eq_zero_of_mod_eq he
        have h3 : l.length - i < s := by omega
        rw [Nat.mod_eq_of_lt h3] at h2
        omega
      rw [List.getD_eq_getElem?_getD, List.getElem?_set_ne hne, ← List.getD_eq_getElem?_getD, ih i hlt (by omega)]
      simp [List.getD_eq_getElem?_getD, List.getElem?_append_left hlt]

def pumpObj (r : List Int) (s t : Int) : Obj := .cells ((r.map (Value.int .i64) ++ [Value.int .i64 s, Value.int .i64 t]).toArray) 95 (0, 0)
/-- A pump of s places to which all was sent. -/
def pumpO (s : Nat) (all : List Int) : Obj := pumpObj (ringOf s all) s all.length

theorem pumpObj_cell {r : List Int} {s t : Int} (hr : r.length = 8) (i : Nat) (hi : i < 8) : ((r.map (Value.int .i64) ++ [Value.int .i64 s, Value.int .i64 t]).toArray)[i]? = some (.int .i64 (r.getD i 0)) := by
  have : i < r.length := by omega
  simp [this, List.getElem?_append_left]
theorem pumpObj_send {r : List Int} {s t : Int} (hr : r.length = 8) (i : Nat) (hi : i < 8) (v t' : Int) :
    Obj.cells ((((r.map (Value.int .i64) ++ [Value.int .i64 s, Value.int .i64 t]).toArray).setIfInBounds i (.int .i64 v)).setIfInBounds 9 (.int .i64 t')) 95 (0, 0) = pumpObj (r.set i v) s t' := by
  unfold pumpObj
  congr 1
  simp only [List.setIfInBounds_toArray]
  congr 1
  rw [List.set_append_left _ _ (by simp; omega), List.set_append_right _ _ (by simp; omega)]
  simp [hr, List.map_set]

set_option maxHeartbeats 400000 in
theorem send_raw {w0 w : World} {γ : Nat → Option (Nat × Obj)} (hs : Own w0 w γ) {tg g : Nat} {r : List Int} {s t v : Int} (hg : γ tg = some (g, pumpObj r s t))
    (hr : r.length = 8) (h1 : 1 ≤ s) (h8 : s ≤ 8) (ht0 : 0 ≤ t) (ht : t < 4611686018427387904) :
    Calls Try.prog 21 #[.pointer (some ⟨g, 0, none⟩), .int .i64 v] w fun e w' =>
      e = .returned (.int .i64 0) ∧ Own w0 w' (put γ tg g (pumpObj (r.set (t % s).toNat v) s (t + 1))) := by
  have c8 : w.cell? ⟨g, 8, none⟩ = some (.int .i64 s) := hs.cell hg (by simp [hr])
  have c9 : w.cell? ⟨g, 9, none⟩ = some (.int .i64 t) := hs.cell hg (by simp [hr])
  have m0 := Int.emod_nonneg t (show s ≠ 0 by omega)
  have m1 := Int.emod_lt_of_pos t (show 0 < s by omega)
  have ci : w.cell? ⟨g, (t % s).toNat, none⟩ = some (.int .i64 (r.getD (t % s).toNat 0)) := hs.cell hg (pumpObj_cell hr _ (by omega))
  have fi := hs.free hg (t % s).toNat
  have f9 := hs.free hg 9
  go_enter Try.func21, Try.ntmps21
  go_wp2
  go_region
  all_goals go_wp2
  all_goals go_ret
  all_goals exact ⟨rfl, by
    have h := ((hs.set hg (t % s).toNat (.int .i64 v)).set (put_same _ _ _ _) 9 (.int .i64 (t + 1))).drew
    rw [put_put, pumpObj_send hr _ (by omega)] at h
    exact h⟩

theorem send_any {w0 w : World} {γ : Nat → Option (Nat × Obj)} (hs : Own w0 w γ) {tg g s : Nat} {all : List Int} {v : Int} (hg : γ tg = some (g, pumpO s all))
    (h1 : 1 ≤ s) (h8 : s ≤ 8) (ht : all.length < 1000000) :
    Calls Try.prog 21 #[.pointer (some ⟨g, 0, none⟩), .int .i64 v] w fun e w' =>
      e = .returned (.int .i64 0) ∧ Own w0 w' (put γ tg g (pumpO s (all ++ [v]))) := by
  refine (send_raw hs hg (ringOf_length _ _) (by omega) (by omega) (by omega) (by omega)).mono fun e w' ⟨he, h⟩ => ⟨he, ?_⟩
  have e1 : ((all.length : Int) % (s : Int)).toNat = all.length % s := by rw [← Int.natCast_emod, Int.toNat_natCast]
  rw [e1] at h
  unfold pumpO
  rw [ringOf_snoc, List.length_append, List.length_singleton]
  exact h

theorem send_nil (w : World) (v : Int) :
    Calls Try.prog 21 #[.pointer none, .int .i64 v] w fun e w' => e = .returned (.int .i64 1) ∧ w = w' := by
  go_enter Try.func21, Try.ntmps21
  go_wp2
  go_ret
  exact ⟨rfl, rfl⟩

theorem total_any {w0 w : World} {γ : Nat → Option (Nat × Obj)} (hs : Own w0 w γ) {tg g s : Nat} {all : List Int} (hg : γ tg = some (g, pumpO s all)) :
    Calls Try.prog 24 #[.pointer (some ⟨g, 0, none⟩)] w fun e w' => e = .returned (.int .i64 all.length) ∧ w = w' := by
  have c9 : w.cell? ⟨g, 9, none⟩ = some (.int .i64 all.length) := hs.cell hg (by simp [ringOf_length])
  go_enter Try.func24, Try.ntmps24
  go_wp2
  go_ret
  exact ⟨rfl, rfl⟩
theorem total_nil (w : World) :
    Calls Try.prog 24 #[.pointer none] w fun e w' => e = .returned (.int .i64 0) ∧ w = w' := by
  go_enter Try.func24, Try.ntmps24
  go_wp2
  go_ret
  exact ⟨rfl, rfl⟩

/-- What a reader is told who has read, or lost, the first next values. -/
def recvV (s : Nat) (all : List Int) (next : Int) : Int := if next < 0 ∨ (all.length : Int) ≤ next then 0 else all.getD (max next ((all.length : Int) - s)).toNat 0
def recvL (s : Nat) (all : List Int) (next : Int) : Int := if next < 0 ∨ (all.length : Int) ≤ next then 0 else max next ((all.length : Int) - s) - next
def recvA (s : Nat) (all : List Int) (next : Int) : Int := if next < 0 ∨ (all.length : Int) < next then 0 else if next = all.length then next else max next ((all.length : Int) - s) + 1
def recvE (all : List Int) (next : Int) : Int := if next < 0 ∨ (all.length : Int) < next then 1 else if next = all.length then 18 else 0


theorem results_tmp4 {fn : Func} {t0 t1 t2 t3 : Tmp} (h : fn.results = #[.tmp t0, .tmp t1, .tmp t2, .tmp t3]) (P : Program) (tmps : Array Value) (w : World) :
    (results fn tmps).run P w = .ok (.tuple #[tmps.getD t0 undef, tmps.getD t1 undef, tmps.getD t2 undef, tmps.getD t3 undef]) w := by
  simp [results, h, go_sem]

/-- The four answers. -/
def rec4 (a b c d : Int) : Ending := .returned (.tuple #[.int .i64 a, .int .i64 b, .int .i64 c, .int .i64 d])

theorem rec4_eq (a b c d : Int) : rec4 a b c d = .returned (.tuple #[.int .i64 a, .int .i64 b, .int .i64 c, .int .i64 d]) := rfl

theorem recv_nil (w : World) (v : Int) :
    Calls Try.prog 22 #[.pointer none, .int .i64 v] w fun e w' => e = rec4 0 0 0 1 ∧ Below w.heap.size w w' := by
  go_enter Try.func22, Try.ntmps22
  go_wp2
  (try simp only [Exit.inBlock, Exit.then]); refine bodyPost_ret (results_tmp4 rfl _ _ _) rfl ?_
  exact ⟨rfl, Below.refl _ _⟩

theorem recv_low {w0 w : World} {γ : Nat → Option (Nat × Obj)} (hs : Own w0 w γ) {tg g s : Nat} {all : List Int} {next : Int} (hg : γ tg = some (g, pumpO s all)) (h : next < 0) :
    Calls Try.prog 22 #[.pointer (some ⟨g, 0, none⟩), .int .i64 next] w fun e w' => e = rec4 0 0 0 1 ∧ Below w.heap.size w w' := by
  have hd : decide (next < 0) = true := by simpa using h
  go_enter Try.func22, Try.ntmps22
  go_wp2
  (try simp only [Exit.inBlock, Exit.then]); refine bodyPost_ret (results_tmp4 rfl _ _ _) rfl ?_
  exact ⟨rfl, Below.refl _ _⟩

theorem recv_high {w0 w : World} {γ : Nat → Option (Nat × Obj)} (hs : Own w0 w γ) {tg g s : Nat} {all : List Int} {next : Int} (hg : γ tg = some (g, pumpO s all)) (h0 : 0 ≤ next) (h : all.length < next) :
    Calls Try.prog 22 #[.pointer (some ⟨g, 0, none⟩), .int .i64 next] w fun e w' => e = rec4 0 0 0 1 ∧ Below w.heap.size w w' := by
  have hd : decide (next < 0) = false := by simpa using h0
  have c9 : w.cell? ⟨g, 9, none⟩ = some (.int .i64 all.length) := hs.cell hg (by simp [ringOf_length])
  go_enter Try.func22, Try.ntmps22
  go_wp2
  (try simp only [Exit.inBlock, Exit.then]); refine bodyPost_ret (results_tmp4 rfl _ _ _) rfl ?_
  exact ⟨rfl, Below.refl _ _⟩

theorem recv_end {w0 w : World} {γ : Nat → Option (Nat × Obj)} (hs : Own w0 w γ) {tg g s : Nat} {all : List Int} {next : Int} (hg : γ tg = some (g, pumpO s all)) (h : next = all.length) :
    Calls Try.prog 22 #[.pointer (some ⟨g, 0, none⟩), .int .i64 next] w fun e w' => e = rec4 0 0 next 18 ∧ Below w.heap.size w w' := by
  have c9 : w.cell? ⟨g, 9, none⟩ = some (.int .i64 all.length) := hs.cell hg (by simp [ringOf_length])
  subst h
  have hd : decide ((all.length : Int) < 0) = false := by simp
  have hd2 : decide ((all.length : Int) < (all.length : Int)) = false := by simp
  go_enter Try.func22, Try.ntmps22
  go_wp2
  (try simp only [Exit.inBlock, Exit.then]); refine bodyPost_ret (results_tmp4 rfl _ _ _) rfl ?_
  exact ⟨rfl, Below.refl _ _⟩


/-- The cell that a reader at place k finds. -/
theorem recv_cell {w0 w : World} {γ : Nat → Option (Nat × Obj)} (hs : Own w0 w γ) {tg g s : Nat} {all : List Int} (hg : γ tg = some (g, pumpO s all)) (h1 : 1 ≤ s) (h8 : s ≤ 8) {m : Int}
    (hm0 : 0 ≤ m) (hm1 : m < all.length) (hm2 : (all.length : Int) ≤ m + s) : w.cell? ⟨g, (m % (s : Int)).toNat, none⟩ = some (.int .i64 (all.getD m.toNat 0)) := by
  obtain ⟨k, rfl⟩ : ∃ k : Nat, m = k := ⟨m.toNat, by omega⟩
  have e1 : ((k : Int) % (s : Int)).toNat = k % s := by rw [← Int.natCast_emod, Int.toNat_natCast]
  rw [e1, Int.toNat_natCast]
  refine hs.cell hg (v := .int .i64 (all.getD k 0)) ?_
  have hmod : k % s < s := Nat.mod_lt _ (by omega)
  rw [pumpObj_cell (ringOf_length _ _) _ (by omega), ringOf_get s h1 h8 all k (by omega) (by omega)]

theorem recv_near {w0 w : World} {γ : Nat → Option (Nat × Obj)} (hs : Own w0 w γ) {tg g s : Nat} {all : List Int} {next : Int} (hg : γ tg = some (g, pumpO s all)) (h1 : 1 ≤ s) (h8 : s ≤ 8) (hlen : all.length < 1000000)
    (h0 : 0 ≤ next) (h : next < all.length) (hn : (all.length : Int) - s ≤ next) :
    Calls Try.prog 22 #[.pointer (some ⟨g, 0, none⟩), .int .i64 next] w fun e w' => e = rec4 (all.getD next.toNat 0) 0 (next + 1) 0 ∧ Below w.heap.size w w' := by
  have c8 : w.cell? ⟨g, 8, none⟩ = some (.int .i64 s) := hs.cell hg (by simp [ringOf_length])
  have c9 : w.cell? ⟨g, 9, none⟩ = some (.int .i64 all.length) := hs.cell hg (by simp [ringOf_length])
  have ci := recv_cell hs hg h1 h8 h0 h (by omega)
  have hd : decide (next < 0) = false := by simpa using h0
  have hd2 : decide ((all.length : Int) < next) = false := by simp; omega
  have hd3 : (next == (all.length : Int)) = false := by simp; omega
  have q0 := Int.emod_nonneg next (show (s : Int) ≠ 0 by omega)
  have q1 := Int.emod_lt_of_pos next (show 0 < (s : Int) by omega)
  generalize all.getD next.toNat 0 = u at ci ⊢
  clear hs hg
  go_enter Try.func22, Try.ntmps22
  go_wp2
  go_region
  all_goals go_wp2
  all_goals go_region
  all_goals go_wp2
  all_goals (try simp only [Exit.inBlock, Exit.then])
  all_goals refine bodyPost_ret (results_tmp4 rfl _ _ _) rfl ?_
  all_goals exact ⟨by simp [rec4], ((Below.refl _ _).drew).drew⟩

theorem recv_far {w0 w : World} {γ : Nat → Option (Nat × Obj)} (hs : Own w0 w γ) {tg g s : Nat} {all : List Int} {next : Int} (hg : γ tg = some (g, pumpO s all)) (h1 : 1 ≤ s) (h8 : s ≤ 8) (hlen : all.length < 1000000)
    (h0 : 0 ≤ next) (hn : next < (all.length : Int) - s) :
    Calls Try.prog 22 #[.pointer (some ⟨g, 0, none⟩), .int .i64 next] w fun e w' => e = rec4 (all.getD ((all.length : Int) - s).toNat 0) ((all.length : Int) - s - next) ((all.length : Int) - s + 1) 0 ∧ Below w.heap.size w w' := by
  have c8 : w.cell? ⟨g, 8, none⟩ = some (.int .i64 s) := hs.cell hg (by simp [ringOf_length])
  have c9 : w.cell? ⟨g, 9, none⟩ = some (.int .i64 all.length) := hs.cell hg (by simp [ringOf_length])
  have hz : 0 ≤ (all.length : Int) - s := by omega
  have ci := recv_cell hs hg h1 h8 hz (by omega) (by omega)
  have hd : decide (next < 0) = false := by simpa using h0
  have hd2 : decide ((all.length : Int) < next) = false := by simp; omega
  have hd3 : (next == (all.length : Int)) = false := by simp; omega
  have q0 := Int.emod_nonneg ((all.length : Int) - s) (show (s : Int) ≠ 0 by omega)
  have q1 := Int.emod_lt_of_pos ((all.length : Int) - s) (show 0 < (s : Int) by omega)
  generalize all.getD ((all.length : Int) - s).toNat 0 = u at ci ⊢
  have es : ((all.length : Int) - s) % s = (all.length : Int) % s := Int.sub_emod_right _ _
  have ci' := ci
  have q0' := q0
  have q1' := q1
  rw [es] at ci' q0' q1'
  rw [show ((all.length : Int) % (s : Int)).toNat = all.length % s by rw [← Int.natCast_emod, Int.toNat_natCast]] at ci'
  clear hs hg es
  go_enter Try.func22, Try.ntmps22
  go_wp2
  go_region
  all_goals go_wp2
  all_goals go_region
  all_goals go_wp2
  all_goals (try simp only [Exit.inBlock, Exit.then])
  all_goals refine bodyPost_ret (results_tmp4 rfl _ _ _) rfl ?_
  all_goals exact ⟨by simp [rec4], ((Below.refl _ _).drew).drew⟩

theorem recv_any {w0 w : World} {γ : Nat → Option (Nat × Obj)} (hs : Own w0 w γ) {tg g s : Nat} {all : List Int} {next : Int} (hg : γ tg = some (g, pumpO s all)) (h1 : 1 ≤ s) (h8 : s ≤ 8) (hlen : all.length < 1000000) :
    Calls Try.prog 22 #[.pointer (some ⟨g, 0, none⟩), .int .i64 next] w fun e w' => e = rec4 (recvV s all next) (recvL s all next) (recvA s all next) (recvE all next) ∧ Own w0 w' γ := by
  have fin : ∀ {a b c d : Int}, a = recvV s all next → b = recvL s all next → c = recvA s all next → d = recvE all next →
      Calls Try.prog 22 #[.pointer (some ⟨g, 0, none⟩), .int .i64 next] w (fun e w' => e = rec4 a b c d ∧ Below w.heap.size w w') →
      Calls Try.prog 22 #[.pointer (some ⟨g, 0, none⟩), .int .i64 next] w fun e w' => e = rec4 (recvV s all next) (recvL s all next) (recvA s all next) (recvE all next) ∧ Own w0 w' γ := by
    intro a b c d ha hb hc hd hcall
    exact hcall.mono fun e w' ⟨he, hw⟩ => ⟨by rw [he, ha, hb, hc, hd], hs.below' hw⟩
  unfold recvV recvL recvA recvE at *
  by_cases c1 : next < 0
  · refine fin ?_ ?_ ?_ ?_ (recv_low hs hg c1)
    all_goals (first | rw [if_pos (by omega)] | skip)
  · by_cases c2 : (all.length : Int) < next
    · refine fin ?_ ?_ ?_ ?_ (recv_high hs hg (by omega) c2)
      all_goals (first | rw [if_pos (by omega)] | skip)
    · by_cases c3 : next = all.length
      · refine fin ?_ ?_ ?_ ?_ (recv_end hs hg c3)
        · rw [if_pos (by omega)]
        · rw [if_pos (by omega)]
        · rw [if_neg (by omega), if_pos c3]
        · rw [if_neg (by omega), if_pos c3]
      · by_cases c4 : (all.length : Int) - s ≤ next
        · have hm : max next ((all.length : Int) - s) = next := by omega
          refine fin ?_ ?_ ?_ ?_ (recv_near hs hg h1 h8 hlen (by omega) (by omega) c4)
          · rw [if_neg (by omega), hm]
          · rw [if_neg (by omega), hm]; omega
          · rw [if_neg (by omega), if_neg c3, hm]
          · rw [if_neg (by omega), if_neg c3]
        · have hm : max next ((all.length : Int) - s) = (all.length : Int) - s := by omega
          refine fin ?_ ?_ ?_ ?_ (recv_far hs hg h1 h8 hlen (by omega) (by omega))
          · rw [if_neg (by omega), hm]
          · rw [if_neg (by omega), hm]
          · rw [if_neg (by omega), if_neg c3, hm]
          · rw [if_neg (by omega), if_neg c3]

/-- How many places a pump of a size has. -/
def clampN (hi : Nat) (size : Int) : Nat := if size < 1 then 1 else if hi < size then hi else size.toNat
theorem clamp_bounds {hi : Nat} (h : 1 ≤ hi) (size : Int) : 1 ≤ clampN hi size ∧ clampN hi size ≤ hi := by
  unfold clampN; split <;> (try split) <;> omega

theorem new_any {w0 w : World} {γ : Nat → Option (Nat × Obj)} (hs : Own w0 w γ) (tg : Nat) (size : Int) :
    Calls Try.prog 18 #[.int .i64 size] w fun e w' => ∃ g, e = .returned (.pointer (some ⟨g, 0, none⟩)) ∧ Own w0 w' (put γ tg g (pumpO (clampN 8 size) [])) := by
  have hb := clamp_bounds (hi := 8) (by omega) size
  have fin : ∀ k : Nat, clampN 8 size = k → (∃ g, Ending.returned (.pointer (some ⟨w.heap.size, 0, none⟩)) = Ending.returned (.pointer (some ⟨g, 0, none⟩)) ∧
      Own w0 (w.alloc (.cells #[.int .i64 0, .int .i64 0, .int .i64 0, .int .i64 0, .int .i64 0, .int .i64 0, .int .i64 0, .int .i64 0, .int .i64 k, .int .i64 0] 95)) (put γ tg g (pumpO (clampN 8 size) []))) := by
    intro k hk
    subst hk
    exact ⟨_, rfl, hs.new _ _⟩
  by_cases a1 : size ≤ 1
  · have hk := fin 1 (by unfold clampN; split <;> (try split) <;> omega)
    go_enter Try.func18, Try.ntmps18
    go_wp2
    all_goals go_ret
    all_goals exact hk
  · by_cases a8 : 8 < size
    · have hk := fin 8 (by unfold clampN; rw [if_neg (by omega), if_pos (by omega)])
      go_enter Try.func18, Try.ntmps18
      go_wp2
      all_goals go_ret
      all_goals exact hk
    · obtain ⟨k, rfl⟩ : ∃ k : Nat, size = k := ⟨size.toNat, by omega⟩
      have hk := fin k (by unfold clampN; rw [if_neg (by omega), if_neg (by omega)]; omega)
      go_enter Try.func18, Try.ntmps18
      go_wp2
      all_goals go_ret
      all_goals exact hk
end Go.Proofs.Ytniiefcbiapieaa
