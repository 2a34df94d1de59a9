/- The walk of LinkNone. -/
import Derived.Test.YtniiefcbiapieaaLJoin
import Derived.Test.YtniiefcbiapieaaAgg
namespace Go.Proofs.Ytniiefcbiapieaa
open Go.RowKit Go.ChangeMaps

theorem emptyDo (en : Nat → EndS) (d t op a b' v : Int) : doR ⟨[], en, fun _ _ => none⟩ d t op a b' v = (if 27 ≤ op ∧ op ≤ 34 then 7 else 1, 0, 0, ⟨[], en, fun _ _ => none⟩) := by
  have hm : mayE [] d op a = 7 := by unfold mayE; rw [if_pos (by simp; omega)]
  unfold doR
  by_cases h : op < 27 ∨ 34 < op
  · rw [if_pos h, if_neg (by omega)]
  · rw [if_neg h, if_pos (by rw [hm]; decide), hm, if_pos (by omega)]

set_option maxRecDepth 100000 in
set_option maxHeartbeats 8000000 in
theorem linkNone_ints (d t k dm pk op a b' v : Int) (w : World) (hd : Fits d) (ht : Fits t) :
    Calls Try.prog 17 #[.int .i64 d, .int .i64 t, entV k dm pk op a b' v] w fun e w' => e = .returned (.bool true) ∧ Below w.heap.size w w' := by
  have h1 := (Own.start w).new 1 (entO k dm pk op a b' v)
  have k1 := put_same (fun _ => Option.none) 1 w.heap.size (entO k dm pk op a b' v)
  have kn : ∀ k', 20 ≤ k' → put (fun _ => Option.none) 1 w.heap.size (entO k dm pk op a b' v) k' = none := fun k' hk => put_other _ _ _ (by omega)
  unfold entO at h1 k1 kn
  unfold entV
  generalize put (fun _ => Option.none) 1 w.heap.size _ = γ1 at *
  have H1 := Lib.hid h1
  have K1 := Lib.hid k1
  have KN := Lib.hid kn
  clear h1 k1 kn
  go_enter Try.func17, Try.ntmps17
  go_wp2_with fail
  refine (forget_nil d t _).mono ?_
  rintro e w1 ⟨rfl, rfl⟩
  generalize w.alloc _ = w1 at *
  have e0 := H1.out.cell K1.out (i := 0) (v := .int .i64 k) rfl
  have e1 := H1.out.cell K1.out (i := 1) (v := .int .i64 dm) rfl
  have e2 := H1.out.cell K1.out (i := 2) (v := .int .i64 pk) rfl
  have e3 := H1.out.cell K1.out (i := 3) (v := .int .i64 op) rfl
  have e4 := H1.out.cell K1.out (i := 4) (v := .int .i64 a) rfl
  have e5 := H1.out.cell K1.out (i := 5) (v := .int .i64 b') rfl
  have e6 := H1.out.cell K1.out (i := 6) (v := .int .i64 v) rfl
  go_wp2_with fail
  refine (do_nil d t k dm pk op a b' v _).mono ?_
  rintro e w2 ⟨rfl, hb⟩
  have H2 := Lib.hid (H1.out.below' hb)
  clear e0 e1 e2 e3 e4 e5 e6 hb
  go_wp2_with fail
  refine (linkNew_nil 20 _ _ _).mono ?_
  rintro e w3 ⟨gl, γ3, rfl, hL⟩
  have H3 := Lib.hid (LinksAt.beside H2.out hL KN.out)
  have K3 := Lib.hid (beside_old (γ1 := γ3) K1.out)
  clear hL
  generalize beside γ1 γ3 = γ4 at *
  have e0 := H3.out.own.cell K3.out (i := 0) (v := .int .i64 k) rfl
  have e1 := H3.out.own.cell K3.out (i := 1) (v := .int .i64 dm) rfl
  have e2 := H3.out.own.cell K3.out (i := 2) (v := .int .i64 pk) rfl
  have e3 := H3.out.own.cell K3.out (i := 3) (v := .int .i64 op) rfl
  have e4 := H3.out.own.cell K3.out (i := 4) (v := .int .i64 a) rfl
  have e5 := H3.out.own.cell K3.out (i := 5) (v := .int .i64 b') rfl
  have e6 := H3.out.own.cell K3.out (i := 6) (v := .int .i64 v) rfl
  go_wp2_with fail
  have hLat : LAt w γ4 20 gl ⟨[], fun _ => .tap 1 [] 0, fun _ _ => none⟩ w3 := H3.out
  have hdo := linkDo_any hLat (by show 0 ≤ 10; omega) (fun i hi => by simp at hi) hd ht k dm pk op a b' v
  rw [emptyDo] at hdo
  clear hLat
  refine hdo.mono ?_
  rintro e w4 ⟨rfl, γ5, h5, hk5⟩
  have H5 := Lib.hid h5
  have K5 := Lib.hid ((hk5 1 (by omega)).trans K3.out)
  clear hdo h5 hk5 e0 e1 e2 e3 e4 e5 e6
  have e3 := (LinksAt.own H5.out).cell K5.out (i := 3) (v := .int .i64 op) rfl
  by_cases h1 : op < 27
  · rw [if_neg (by omega)]
    go_wp2_with fail
    refine (linkAwake _).mono ?_
    rintro e w6 ⟨rfl, hb⟩
    have h6 := LinksAt.below' H5.out hb
    have H6 := Lib.hid h6
    clear h6 hb
    go_wp2_with fail
    refine (writes_nil _ _ _).mono ?_
    rintro e w7 ⟨rfl, rfl⟩
    go_wp2_with fail
    refine (writes_all (s := ⟨[], fun _ => .tap 1 [] 0, fun _ _ => none⟩) H6.out (by show 0 ≤ 10; omega) d t).mono ?_
    rintro e w7 ⟨rfl, hb⟩
    rw [show writesB ⟨[], fun _ => .tap 1 [] 0, fun _ _ => none⟩ d t = false from by unfold writesB; simp]
    go_wp2_with fail
    go_ret
    exact ⟨rfl, ((LinksAt.own H6.out).below' hb).below⟩
  · by_cases h2 : 34 < op
    · rw [if_neg (by omega)]
      go_wp2_with fail
      refine (linkAwake _).mono ?_
      rintro e w6 ⟨rfl, hb⟩
      have h6 := LinksAt.below' H5.out hb
      have H6 := Lib.hid h6
      clear h6 hb
      go_wp2_with fail
      refine (writes_nil _ _ _).mono ?_
      rintro e w7 ⟨rfl, rfl⟩
      go_wp2_with fail
      refine (writes_all (s := ⟨[], fun _ => .tap 1 [] 0, fun _ _ => none⟩) H6.out (by show 0 ≤ 10; omega) d t).mono ?_
      rintro e w7 ⟨rfl, hb⟩
      rw [show writesB ⟨[], fun _ => .tap 1 [] 0, fun _ _ => none⟩ d t = false from by unfold writesB; simp]
      go_wp2_with fail
      go_ret
      exact ⟨rfl, ((LinksAt.own H6.out).below' hb).below⟩
    · rw [if_pos (by omega)]
      go_wp2_with fail
      refine (linkAwake _).mono ?_
      rintro e w6 ⟨rfl, hb⟩
      have h6 := LinksAt.below' H5.out hb
      have H6 := Lib.hid h6
      clear h6 hb
      go_wp2_with fail
      refine (writes_nil _ _ _).mono ?_
      rintro e w7 ⟨rfl, rfl⟩
      go_wp2_with fail
      refine (writes_all (s := ⟨[], fun _ => .tap 1 [] 0, fun _ _ => none⟩) H6.out (by show 0 ≤ 10; omega) d t).mono ?_
      rintro e w7 ⟨rfl, hb⟩
      rw [show writesB ⟨[], fun _ => .tap 1 [] 0, fun _ _ => none⟩ d t = false from by unfold writesB; simp]
      go_wp2_with fail
      go_ret
      exact ⟨rfl, ((LinksAt.own H6.out).below' hb).below⟩

/-- An entry. -/
theorem ent_of {cs : List Value} (hl : cs.length = 7) (h : Fit [.int .i64, .int .i64, .int .i64, .int .i64, .int .i64, .int .i64, .int .i64] cs) : ∃ k dm pk op a b v : Int, cs = [.int .i64 k, .int .i64 dm, .int .i64 pk, .int .i64 op, .int .i64 a, .int .i64 b, .int .i64 v] := by
  obtain ⟨v0, h0, x0, rfl, _⟩ := h 0 _ rfl
  obtain ⟨v1, h1, x1, rfl, _⟩ := h 1 _ rfl
  obtain ⟨v2, h2, x2, rfl, _⟩ := h 2 _ rfl
  obtain ⟨v3, h3, x3, rfl, _⟩ := h 3 _ rfl
  obtain ⟨v4, h4, x4, rfl, _⟩ := h 4 _ rfl
  obtain ⟨v5, h5, x5, rfl, _⟩ := h 5 _ rfl
  obtain ⟨v6, h6, x6, rfl, _⟩ := h 6 _ rfl
  refine ⟨x0, x1, x2, x3, x4, x5, x6, ?_⟩
  match cs, hl with
  | [a, b, c, d, e, f, g], _ => simp at h0 h1 h2 h3 h4 h5 h6; simp [h0, h1, h2, h3, h4, h5, h6]

theorem linkNone_walk (d t : Int) (cs : List Value) (w : World) (hd : Fits d) (ht : Fits t) (hl : cs.length = 7) (hf : Fit [.int .i64, .int .i64, .int .i64, .int .i64, .int .i64, .int .i64, .int .i64] cs) :
    Calls Try.prog 17 #[.int .i64 d, .int .i64 t, .agg cs.toArray] w fun e w' => e = .returned (.bool true) ∧ Below w.heap.size w w' := by
  obtain ⟨k, dm, pk, op, a, b, v, rfl⟩ := ent_of hl hf
  exact linkNone_ints d t k dm pk op a b v w hd ht
end Go.Proofs.Ytniiefcbiapieaa
