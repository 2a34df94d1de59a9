/- Does a task write? -/
import Derived.Test.YtniiefcbiapieaaDoAny
import Derived.LoopTactic
namespace Go.Proofs.Ytniiefcbiapieaa
open Go.RowKit Go.ChangeMaps

/-- Does link n say so? -/
def writesAt (s : LS) (d t : Int) (n : Nat) : Bool := match s.ls[n]?, s.en n with
  | some l, .cell c => (l.from_ == d) && (c.t == t)
  | _, _ => false
def writesB (s : LS) (d t : Int) : Bool := decide (1 ≤ t) && (List.range s.ls.length).any (writesAt s d t)

def wrPost (w : World) (x : Bool) (e : Ending) (w' : World) : Prop := e = .returned (.bool x) ∧ Below w.heap.size w w'
def WrAt (w : World) (s : LS) (d t : Int) (i : Value) (wr : World) : Prop := ∃ k : Nat, i = .int .i64 k ∧ k ≤ s.ls.length ∧ (∀ j, j < k → writesAt s d t j = false) ∧ Below w.heap.size w wr

theorem writes_nil (d t : Int) (w : World) : Calls Try.prog 48 #[.pointer none, .int .i64 d, .int .i64 t] w fun e w' => e = .returned (.bool false) ∧ w = w' := by
  go_enter Try.func48, Try.ntmps48
  go_wp2_with fail
  go_ret
  exact ⟨rfl, rfl⟩

theorem writes_low (gl : Nat) (d t : Int) (ht : t < 1) (w : World) : Calls Try.prog 48 #[.pointer (some ⟨gl, 0, none⟩), .int .i64 d, .int .i64 t] w fun e w' => e = .returned (.bool false) ∧ w = w' := by
  go_enter Try.func48, Try.ntmps48
  go_wp2_with fail
  go_ret
  exact ⟨rfl, rfl⟩

section
variable {w0 w : World} {γ : Nat → Option (Nat × Obj)} {b gl : Nat} {s : LS}

set_option maxRecDepth 100000 in
set_option maxHeartbeats 8000000 in
theorem writes_any (h : LAt w0 γ b gl s w) (h10 : s.ls.length ≤ 10) (d t : Int) (ht : 1 ≤ t) :
    Calls Try.prog 48 #[.pointer (some ⟨gl, 0, none⟩), .int .i64 d, .int .i64 t] w (wrPost w (writesB s d t)) := by
  obtain ⟨A, cap, c0⟩ := LinksAt.len h
  have H := Lib.hid h
  have HT : ∀ n, (∀ j, j < n → writesAt s d t j = false) → n = s.ls.length → writesB s d t = false := by
    intro n hn e
    subst e
    unfold writesB
    rw [Bool.and_eq_false_iff]
    right
    rw [List.any_eq_false]
    intro x hx
    simp [hn x (List.mem_range.1 hx)]
  have HY : ∀ n, n < s.ls.length → writesAt s d t n = true → writesB s d t = true := by
    intro n hn hw
    unfold writesB
    rw [Bool.and_eq_true]
    exact ⟨by simpa using ht, List.any_eq_true.2 ⟨n, List.mem_range.2 hn, hw⟩⟩
  have HT' := Lib.hid HT
  have HY' := Lib.hid HY
  clear h HT HY
  go_enter Try.func48, Try.ntmps48
  go_wp2_with fail
  go_loopw [22] (fun i wr => WrAt w s d t i wr) (fun i _ => s.ls.length - (intOf i).toNat)
  case atStart => exact ⟨0, rfl, by omega, fun j hj => by omega, Below.refl _ _⟩
  case round =>
    obtain ⟨k, rfl, hk, hno, hb⟩ := hrel
    have HN := Lib.hid hno
    clear hno
    have h1 := LinksAt.below' H.out hb
    by_cases hlt : k < s.ls.length
    · have hl : s.ls[k]? = some s.ls[k] := List.getElem?_eq_getElem hlt
      obtain ⟨u, ⟨g, cap, g2, cap2, c0', c1, q0, q1, q2, q3, cu⟩, hend⟩ := h1.at_ hl
      rw [(hb.cell (World.block_lt_of_cell? w _ c0)).trans c0] at c0'
      cases c0'
      have l1 := World.block_lt_of_cell? wr _ c1
      have l2 := World.block_lt_of_cell? wr _ q0
      have l3 := World.block_lt_of_cell? wr _ cu
      dsimp only at l1 l2 l3
      generalize hll : s.ls[k] = l at *
      have HL := Lib.hid hl
      obtain ⟨kind, fr, tow, size⟩ := l
      dsimp only at q0 q1 q2 q3
      have hb2 := hb.trans (((Below.refl wr.heap.size wr).alloc (Nat.le_refl _) (.cells #[.int .i64 kind, .int .i64 fr, .int .i64 tow, .int .i64 size] 78)).mono hb.size)
      have HB := Lib.hid hb2
      have hkn : (k : Int) < s.ls.length := by omega
      cases he : s.en k with
      | tap z all next =>
        rw [he] at hend
        obtain ⟨_, gt, gp, rfl, _⟩ := hend
        have hw : writesAt s d t k = false := by unfold writesAt; rw [hl, he]
        have HW := Lib.hid hw
        have hta := ta_tc (.pointer (some ⟨gt, 0, none⟩))
        clear hl hll hb2 he hw h1
        go_wp2_with fail
        go_roundw
        case rel => exact ⟨k + 1, by go_num, by omega, fun j hj => by by_cases e : j = k; (subst e; exact HW.out); exact HN.out j (by omega), HB.out⟩
        case measure => simp [intOf]; omega
      | cell c =>
        rw [he] at hend
        obtain ⟨hk1, gc, rfl, hg, hok⟩ := hend
        dsimp only at hk1
        subst hk1
        have hwr := cellWriter_any (h1.own.below' ((Below.refl wr.heap.size wr).alloc (Nat.le_refl _) (.cells #[.int .i64 1, .int .i64 fr, .int .i64 tow, .int .i64 size] 78))) hg hok
        have hta := ta_cc (.pointer (some ⟨gc, 0, none⟩))
        have hw : writesAt s d t k = ((fr == d) && (c.t == t)) := by unfold writesAt; rw [hl, he]
        have HW := Lib.hid hw
        clear hl hll hb2 he hw h1 hg
        by_cases hf : fr = d
        · have hfb : (fr == d) = true := by simpa using hf
          by_cases ht2 : c.t = t
          · have htb : (c.t == t) = true := by simpa using ht2
            have HY2 := Lib.hid (HY'.out k hlt (by rw [HW.out, hfb, htb]; rfl))
            clear hf ht2
            rw [HY2.out]
            go_wp2_with fail
            refine hwr.mono ?_
            rintro e w3 ⟨rfl, rfl⟩
            rw [ans_eq]
            go_wp2_with fail
            go_ret
            exact ⟨rfl, HB.out⟩
          · have htb : (c.t == t) = false := by simpa using ht2
            have HW2 := Lib.hid (show writesAt s d t k = false by rw [HW.out, htb, Bool.and_false])
            clear hf ht2
            go_wp2_with fail
            refine hwr.mono ?_
            rintro e w3 ⟨rfl, rfl⟩
            rw [ans_eq]
            go_wp2_with fail
            go_roundw
            case rel => exact ⟨k + 1, by go_num, by omega, fun j hj => by by_cases e : j = k; (subst e; exact HW2.out); exact HN.out j (by omega), HB.out⟩
            case measure => simp [intOf]; omega
        · have hfb : (fr == d) = false := by simpa using hf
          have HW2 := Lib.hid (show writesAt s d t k = false by rw [HW.out, hfb, Bool.false_and])
          clear hf
          go_wp2_with fail
          go_roundw
          case rel => exact ⟨k + 1, by go_num, by omega, fun j hj => by by_cases e : j = k; (subst e; exact HW2.out); exact HN.out j (by omega), HB.out⟩
          case measure => simp [intOf]; omega
    · obtain rfl : k = s.ls.length := by omega
      have HF := Lib.hid (HT'.out _ HN.out rfl)
      clear h1
      go_wp2_with fail
      go_ret
      exact ⟨by rw [HF.out]; rfl, hb⟩
theorem writes_all (h : LAt w0 γ b gl s w) (h10 : s.ls.length ≤ 10) (d t : Int) :
    Calls Try.prog 48 #[.pointer (some ⟨gl, 0, none⟩), .int .i64 d, .int .i64 t] w (wrPost w (writesB s d t)) := by
  by_cases ht : 1 ≤ t
  · exact writes_any h h10 d t ht
  · refine (writes_low gl d t (by omega) w).mono ?_
    rintro e w' ⟨rfl, rfl⟩
    have : writesB s d t = false := by unfold writesB; rw [Bool.and_eq_false_iff]; left; simpa using ht
    exact ⟨by rw [this], Below.refl _ _⟩
end
end Go.Proofs.Ytniiefcbiapieaa
