/- The reference's links: what lies at a place; does a task write; a task is forgotten. -/
import Derived.Test.YtniiefcbiapieaaRefLnk
namespace Go.Proofs.Ytniiefcbiapieaa
open Go.RowKit Go.ChangeMaps Go.WideShapes

section
variable {w0 w : World} {γ : Nat → Option (Nat × Obj)} {r gr cap q : Nat} {A : Option Addr} {s : LS}

/-- What is read at link j. -/
structure AtRef (w : World) (gr n cap : Nat) (A : Option Addr) (j : Nat) (l : LinkS) (vc vp : Value) (nx : Int) (pb off g1 c1 g2 c2 g3 c3 : Nat) (rv : Value) : Prop where
  hA : A = some ⟨pb, off, none⟩
  c0 : w.cell? ⟨gr, 0, none⟩ = some (.slice (some ⟨pb, off, none⟩) n cap)
  c1 : w.cell? ⟨gr, 1, none⟩ = some (.slice (some ⟨g1, 0, none⟩) n c1)
  c2 : w.cell? ⟨gr, 2, none⟩ = some (.slice (some ⟨g2, 0, none⟩) n c2)
  c3 : w.cell? ⟨gr, 3, none⟩ = some (.slice (some ⟨g3, 0, none⟩) n c3)
  c4 : w.cell? ⟨gr, 4, none⟩ = some rv
  q0 : w.cell? ⟨pb, off + j * 4, none⟩ = some (.int .i64 l.kind)
  q1 : w.cell? ⟨pb, off + j * 4 + 1, none⟩ = some (.int .i64 l.from_)
  q2 : w.cell? ⟨pb, off + j * 4 + 2, none⟩ = some (.int .i64 l.to)
  q3 : w.cell? ⟨pb, off + j * 4 + 3, none⟩ = some (.int .i64 l.size)
  uc : w.cell? ⟨g1, j, none⟩ = some vc
  up : w.cell? ⟨g2, j, none⟩ = some vp
  un : w.cell? ⟨g3, j, none⟩ = some (.int .i64 nx)

theorem RefL.at_ (h : RefL w0 γ r gr A cap q s w) {j : Nat} {l : LinkS} (hl : s.ls[j]? = some l) :
    ∃ vc vp nx pb off g1 c1 g2 c2 g3 c3 rv, AtRef w gr s.ls.length cap A j l vc vp nx pb off g1 c1 g2 c2 g3 c3 rv ∧ RefEnd γ (r + 10 + 4 * j) vc vp nx l (s.en j) := by
  obtain ⟨ho, hin, cv, pv, nv, rv, vc, vp, nx, rd, h0, h1, h2, h3, h4, h5, h6, h7⟩ := h
  have hj : j < s.ls.length := (List.getElem?_eq_some_iff.1 hl).1
  obtain ⟨g1, c1, rfl, _, k1⟩ := h1.row ho (by omega)
  obtain ⟨g2, c2, rfl, _, k2⟩ := h2.row ho (by omega)
  obtain ⟨g3, c3, rfl, _, k3⟩ := h3.row ho (by omega)
  have hv1 : vc[j]? = some (vc.getD j undef) := by
    have : j < vc.length := by rw [h1.1]; omega
    rw [List.getD_eq_getElem?_getD, List.getElem?_eq_getElem this]; rfl
  have hv2 : vp[j]? = some (vp.getD j undef) := by
    have : j < vp.length := by rw [h2.1]; omega
    rw [List.getD_eq_getElem?_getD, List.getElem?_eq_getElem this]; rfl
  have hv3 : (ints nx)[j]? = some (.int .i64 (nx.getD j 0)) := by
    have : j < nx.length := by have := h3.1; rw [ints_length] at this; omega
    simp [ints, List.getD_eq_getElem?_getD, this]
  rcases hin.2 with ⟨e, _⟩ | ⟨pb, off, rfl, _, hc⟩
  · rw [e] at hj; simp at hj
  · have hrd : ∀ i, i < 4 → w.cell? ⟨pb, off + (j * 4 + i), none⟩ = l.vals[i]? := by
      intro i hi
      have e := linkVals_get hl i hi
      have hlt : i < l.vals.length := hi
      rw [List.getElem?_eq_getElem hlt] at e ⊢
      have := hc _ _ e
      rw [add_plain] at this
      exact (ho.below.cell (World.block_lt_of_cell? _ _ this)).trans this
    refine ⟨_, _, _, pb, off, g1, c1, g2, c2, g3, c3, rv, ⟨rfl, ho.cell h0 (i := 0) rfl, ho.cell h0 (i := 1) rfl, ho.cell h0 (i := 2) rfl, ho.cell h0 (i := 3) rfl, ho.cell h0 (i := 4) rfl, ?_, ?_, ?_, ?_, k1 j _ hv1, k2 j _ hv2, k3 j _ hv3⟩, h7 j l hl⟩
    · exact hrd 0 (by omega)
    · exact hrd 1 (by omega)
    · exact hrd 2 (by omega)
    · exact hrd 3 (by omega)

theorem RefL.len (h : RefL w0 γ r gr A cap q s w) : w.cell? ⟨gr, 0, none⟩ = some (.slice A s.ls.length cap) := by
  obtain ⟨ho, hin, cv, pv, nv, rv, vc, vp, nx, rd, h0, _⟩ := h
  exact ho.cell h0 (i := 0) rfl

def RWrAt (s : LS) (d t : Int) (i : Value) : Prop := ∃ k : Nat, i = .int .i64 k ∧ k ≤ s.ls.length ∧ Hid (∀ j, j < k → writesAt s d t j = false)

set_option maxRecDepth 100000 in
set_option maxHeartbeats 8000000 in
theorem refWrites_any (h : RefL w0 γ r gr A cap q s w) (d t : Int) :
    Calls Try.prog 49 #[.pointer (some ⟨gr, 0, none⟩), .int .i64 d, .int .i64 t] w fun e w' => e = .returned (.bool (writesB s d t)) ∧ w = w' := by
  have h10 : s.ls.length ≤ 10 := h.2.1.1
  have c0 := h.len
  have HT : Hid (∀ n, (∀ j, j < n → writesAt s d t j = false) → n = s.ls.length → writesB s d t = false) := Lib.hid fun n hn e => by
    subst e
    unfold writesB
    rw [Bool.and_eq_false_iff]
    right
    rw [List.any_eq_false]
    intro x hx
    simp [hn x (List.mem_range.1 hx)]
  have HL : Hid (t < 1 → writesB s d t = false) := Lib.hid fun ht => by
    unfold writesB
    rw [Bool.and_eq_false_iff]
    left
    simp; omega
  have HY : Hid (1 ≤ t → ∀ n, n < s.ls.length → writesAt s d t n = true → writesB s d t = true) := Lib.hid fun ht n hn hw => by
    unfold writesB
    rw [Bool.and_eq_true]
    exact ⟨by simpa using ht, List.any_eq_true.2 ⟨n, List.mem_range.2 hn, hw⟩⟩
  have H := Lib.hid h
  clear h
  generalize hres : writesB s d t = res at *
  clear hres
  by_cases ht : t < 1
  · have hlow := Lib.hid (HL.out ht)
    have dt : decide (0 < t) = false := by simp; omega
    go_enter Try.func49, Try.ntmps49
    go_wp2_with fail
    go_loop [7] (fun i => ∃ k : Nat, i = .int .i64 k ∧ k ≤ s.ls.length) (fun i => s.ls.length - (intOf i).toNat)
    case atStart => exact ⟨0, rfl, by omega⟩
    case round =>
      obtain ⟨k, rfl, hk⟩ := hrel
      by_cases hlt : k < s.ls.length
      · have hl : s.ls[k]? = some s.ls[k] := List.getElem?_eq_getElem hlt
        obtain ⟨vc, vp, nx, pb, off, g1, c1, g2, c2, g3, c3, rv, ⟨rfl, c0', c1', c2', c3', c4', q0, q1, q2, q3, uc, up, un⟩, _⟩ := H.out.at_ hl
        generalize s.ls[k] = l at *
        obtain ⟨kind, fr, tow, size⟩ := l
        dsimp only at q0 q1 q2 q3
        clear hl
        by_cases e1 : kind = 1
        · have b1 : (kind == 1) = true := by simpa using e1
          by_cases e2 : fr = d
          · have b2 : (fr == d) = true := by simpa using e2
            clear e1 e2
            go_wp2_with fail
            go_round
            case rel => exact ⟨k + 1, by go_num, by omega⟩
            case measure => simp [intOf]; omega
          · have b2 : (fr == d) = false := by simpa using e2
            clear e1 e2
            go_wp2_with fail
            go_round
            case rel => exact ⟨k + 1, by go_num, by omega⟩
            case measure => simp [intOf]; omega
        · have b1 : (kind == 1) = false := by simpa using e1
          clear e1
          go_wp2_with fail
          go_round
          case rel => exact ⟨k + 1, by go_num, by omega⟩
          case measure => simp [intOf]; omega
      · obtain rfl : k = s.ls.length := by omega
        go_wp2_with fail
        go_ret
        exact ⟨by rw [hlow.out]; rfl, rfl⟩
  · have dt : decide (0 < t) = true := by simp; omega
    have ht1 : 1 ≤ t := by omega
    go_enter Try.func49, Try.ntmps49
    go_wp2_with fail
    go_loop [7] (fun i => RWrAt s d t i) (fun i => s.ls.length - (intOf i).toNat)
    case atStart => exact ⟨0, rfl, by omega, Lib.hid fun j hj => by omega⟩
    case round =>
      obtain ⟨k, rfl, hk, hno⟩ := hrel
      by_cases hlt : k < s.ls.length
      · have hl : s.ls[k]? = some s.ls[k] := List.getElem?_eq_getElem hlt
        obtain ⟨vc, vp, nx, pb, off, g1, c1, g2, c2, g3, c3, rv, ⟨rfl, c0', c1', c2', c3', c4', q0, q1, q2, q3, uc, up, un⟩, hend⟩ := H.out.at_ hl
        generalize s.ls[k] = l at *
        obtain ⟨gc, gp, c, z, all, rfl, rfl, hC, hok, _, _, _, _, hm⟩ := hend
        obtain ⟨b, e, sv, _, _, _, _, hg, _⟩ := hC
        have w3 := H.out.own.cell hg (i := 3) (v := .int .i64 c.t) rfl
        have hstep : ∀ x, writesAt s d t k = x → x = false → Hid (∀ j, j < k + 1 → writesAt s d t j = false) := fun x hx hf => Lib.hid fun j hj => by
          by_cases e : j = k
          · subst e; rw [hx, hf]
          · exact hno.out j (by omega)
        have HST := Lib.hid hstep
        clear hg hstep
        cases he : s.en k with
        | tap z' all' next' =>
          rw [he] at hm
          have b1 : (l.kind == 1) = false := by simpa using hm.1
          have hn := HST.out _ rfl (by unfold writesAt; rw [hl, he])
          clear hm he hl hno
          obtain ⟨kind, fr, tow, size⟩ := l
          dsimp only at q0 q1 q2 q3 b1
          go_wp2_with fail
          go_round
          case rel => exact ⟨k + 1, by go_num, by omega, hn⟩
          case measure => simp [intOf]; omega
        | cell c' =>
          rw [he] at hm
          obtain ⟨hk1, rfl⟩ := hm
          have hw : writesAt s d t k = ((l.from_ == d) && (c.t == t)) := by unfold writesAt; rw [hl, he]
          have HW := Lib.hid hw
          clear hw he hl
          obtain ⟨kind, fr, tow, size⟩ := l
          dsimp only at q0 q1 q2 q3 hk1 HW
          subst hk1
          by_cases e2 : fr = d
          · have b2 : (fr == d) = true := by simpa using e2
            by_cases e3 : c.t = t
            · have b3 : (c.t == t) = true := by simpa using e3
              have hy := Lib.hid (HY.out ht1 k hlt (by rw [HW.out, b2, b3]; rfl))
              clear e2 e3 hno
              generalize c.t = ct at *
              go_wp2_with fail
              go_ret
              exact ⟨by rw [hy.out]; rfl, rfl⟩
            · have b3 : (c.t == t) = false := by simpa using e3
              have hn := HST.out _ rfl (by rw [HW.out, b3, Bool.and_false])
              clear e2 e3 hno
              generalize c.t = ct at *
              go_wp2_with fail
              go_round
              case rel => exact ⟨k + 1, by go_num, by omega, hn⟩
              case measure => simp [intOf]; omega
          · have b2 : (fr == d) = false := by simpa using e2
            have hn := HST.out _ rfl (by rw [HW.out, b2, Bool.false_and])
            clear e2 hno
            go_wp2_with fail
            go_round
            case rel => exact ⟨k + 1, by go_num, by omega, hn⟩
            case measure => simp [intOf]; omega
      · obtain rfl : k = s.ls.length := by omega
        have hres := Lib.hid (HT.out _ hno.out rfl)
        go_wp2_with fail
        go_ret
        exact ⟨by rw [hres.out]; rfl, rfl⟩
end
end Go.Proofs.Ytniiefcbiapieaa
