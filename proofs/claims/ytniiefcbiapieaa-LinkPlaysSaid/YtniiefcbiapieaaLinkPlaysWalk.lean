/- The walk of LinkPlays. -/
import Derived.Test.YtniiefcbiapieaaRefDoAny
import Derived.Test.YtniiefcbiapieaaRefNew
import Derived.Deep.RegionHeld3
import Derived.Deep.DeepCutAuto
import Derived.Deep.CutBlock
namespace Go.Proofs.Ytniiefcbiapieaa
open Go.RowKit Go.ChangeMaps

/-- The links and the reference's, side by side, in one state. -/
structure DL (w : World) (gl gr gx : Nat) (A : Option Addr) (cap q : Nat) (s : LS) (γ : Nat → Option (Nat × Obj)) (wr : World) : Prop where
  l : LAt w γ 100 gl s wr
  m : RefL w γ 200 gr A cap q s wr
  age : ∀ i, (s.en i).age ≤ q
theorem DL.keep {w wr wr' : World} {gl gr gx cap q : Nat} {A : Option Addr} {s : LS} {γ γ' : Nat → Option (Nat × Obj)} (h : DL w gl gr gx A cap q s γ wr) (ho : Own w wr' γ') (hk : ∀ k, 100 ≤ k → γ' k = γ k) : DL w gl gr gx A cap q s γ' wr' :=
  ⟨LinksAt.keep h.l ho fun k hk' => hk k (by omega), h.m.keep ho fun k hk' => hk k (by omega), h.age⟩
theorem DL.below' {w wr wr' : World} {gl gr gx cap q : Nat} {A : Option Addr} {s : LS} {γ : Nat → Option (Nat × Obj)} (h : DL w gl gr gx A cap q s γ wr) (hb : Below wr.heap.size wr wr') : DL w gl gr gx A cap q s γ wr' := h.keep (h.m.own.below' hb) fun _ _ => rfl
theorem DL.h10 {w wr : World} {gl gr gx cap q : Nat} {A : Option Addr} {s : LS} {γ : Nat → Option (Nat × Obj)} (h : DL w gl gr gx A cap q s γ wr) : s.ls.length ≤ 10 := h.m.2.1.1

/-- How the round begins. -/
def PlaAt (w : World) (gl gr gx : Nat) (A : Option Addr) (cap len : Nat) (i : Value) (wr : World) : Prop :=
  ∃ (k : Nat) (s : LS) (γ : Nat → Option (Nat × Obj)), i = .int .i64 k ∧ k ≤ len ∧ k ≤ 80 ∧ DL w gl gr gx A cap k s γ wr

def TwoPost (w : World) (gl gr gx : Nat) (A : Option Addr) (cap q : Nat) (s : LS) (γ : Nat → Option (Nat × Obj)) (b : Bool) (e : Ending) (w' : World) : Prop := e = .returned (.bool b) ∧ DL w gl gr gx A cap q s γ w'

theorem initEn_age (ls : List LinkS) (i : Nat) : ((initS ls).en i).age = 0 := initS_age ls i

set_option maxRecDepth 100000 in
set_option maxHeartbeats 16000000 in
theorem linkPlays_walk (D S : Option Addr) (dn dc sn sc : Nat) (A : Option Addr) (len cap : Nat) (A1 : Option Addr) (len1 cap1 : Nat) (w : World) (hrows : RowsIn w A len cap linkKinds) (hrows1 : RowsIn w A1 len1 cap1 LAct.kinds) :
    Calls Try.prog 16 #[.agg #[.slice D dn dc, .slice S sn sc, .slice A len cap], .slice A1 len1 cap1] w fun e w' => e = .returned (.bool true) ∧ Below w.heap.size w w' := by
  obtain ⟨hlc, hlm, ls, hls, hLI⟩ := links_in hrows
  have hLI := hLI (rows_nil hrows)
  have hr1 := rows_lacts hrows1
  clear hrows1
  clear hrows
  have hfew := fun w' => few_any D S dn dc sn sc A len cap w' hlc hlm
  rw [← hls] at hfew
  have hl10 : ls.length ≤ 10 := by omega
  have hlcap : ls.length ≤ cap := by omega
  clear hls hlc hlm
  go_enter Try.func16, Try.ntmps16
  go_wp2_with fail
  refine (hfew _).mono ?_
  rintro e w1 ⟨rfl, hb⟩
  have hb1 : Below w.heap.size w w1 := ((Below.refl w.heap.size w).alloc (Nat.le_refl _) _).trans (hb.mono (by simp))
  have ho := ((Own.start w).below' hb1).new 3 (.cells #[.slice D dn dc, .slice S sn sc, .slice A ls.length cap] 68)
  have k3 := put_same (fun _ => Option.none) 3 w1.heap.size (.cells #[.slice D dn dc, .slice S sn sc, .slice A ls.length cap] 68)
  have kn : ∀ k, 100 ≤ k → put (fun _ => Option.none) 3 w1.heap.size (.cells #[.slice D dn dc, .slice S sn sc, .slice A ls.length cap] 68) k = none := fun k hk => put_other _ _ _ (by omega)
  clear hb hfew
  go_wp2_with fail
  generalize put (fun _ => Option.none) 3 w1.heap.size _ = γ0 at *
  generalize w1.heap.size = gx at *
  generalize w1.alloc _ = W at *
  have x0 := ho.cell k3 (i := 0) (v := .slice D dn dc) rfl
  have x1 := ho.cell k3 (i := 1) (v := .slice S sn sc) rfl
  have x2 := ho.cell k3 (i := 2) (v := .slice A ls.length cap) rfl
  refine Perm.wp_region_pre [0, 2] [1, 3, 4, 5] (fun w' => w'.cell? ⟨gx, 0, none⟩ = some (.slice D dn dc) ∧ w'.cell? ⟨gx, 1, none⟩ = some (.slice S sn sc) ∧ w'.cell? ⟨gx, 2, none⟩ = some (.slice A ls.length cap)) (by kernel_rfl) (by kernel_rfl) (fun _ _ _ _ _ h => h) (by refine ⟨?_, ?_, ?_⟩ <;> simpa using by assumption) ?_
  repeat
    refine Perm.light_step rfl ?_ (fun w' hS => ?_) ?_
    rotate_left
    · ((try dsimp only at hS); go_simp; try with_reducible rfl)
    simp only [Act.put, List.setIfInBounds_toArray, List.set_cons_zero, List.set_cons_succ]
  refine Perm.light_nil ?_
  refine Perm.tail_call rfl (by rfl) 40 _ _ rfl (by kernel_rfl) #[.agg #[.slice D dn dc, .slice S sn sc, .slice A ls.length cap]] (by rfl) ((linkNew_all 100 _ _ (hLI.below (Nat.le_refl _) ho.drew.below)).mono ?_)
  rintro e w2 ⟨gl, γ1, rfl, hL1, hn1⟩
  have hL2 := LAt.beside hl10 ho.drew hL1 (fun k h1 _ => kn k (by omega))
  have k32 := beside_old (γ1 := γ1) k3
  clear hL1 hn1
  generalize beside γ0 γ1 = γ2 at *
  refine ⟨_, rfl, fun _ _ => ⟨(LinksAt.own hL2).cell k32 (i := 0) rfl, (LinksAt.own hL2).cell k32 (i := 1) rfl, (LinksAt.own hL2).cell k32 (i := 2) rfl⟩, ?_⟩
  simp only [Act.put, List.setIfInBounds_toArray, List.set_cons_zero, List.set_cons_succ]
  refine Perm.tail_call rfl (by rfl) 44 _ _ rfl (by kernel_rfl) #[.agg #[.slice D dn dc, .slice S sn sc, .slice A ls.length cap]] (by rfl) ((refNewL_any (LinksAt.own hL2) 200 hLI hlcap _ _).mono ?_)
  rintro e w3 ⟨gr, γ3, rfl, hM, hn3⟩
  have hL := LinksAt.keep hL2 hM.own fun k hk => hn3 k (by have : (initS ls).ls.length = ls.length := rfl; omega)
  clear hL2 kn k32
  refine ⟨_, rfl, Perm.no_need (by kernel_rfl), ?_⟩
  simp only [Act.put, List.setIfInBounds_toArray, List.set_cons_zero, List.set_cons_succ]
  repeat
    refine Perm.tail_pure rfl (by rfl) ?_ (fun w' => ?_) ?_
    rotate_left
    · (go_simp; try with_reducible rfl)
    simp only [Act.put, List.setIfInBounds_toArray, List.set_cons_zero, List.set_cons_succ]
  refine Perm.tail_nil ?_
  have hD : PlaAt w gl gr gx A cap len1 (.int .i64 0) w3 := ⟨0, initS ls, γ3, rfl, by omega, by omega, ⟨hL, hM, fun i => by rw [initS_age]; omega⟩⟩
  have HD := Lib.hid hD
  clear hD hL hM x0 x1 x2 ho k3 hb1 hn3
  go_wp2_with fail
  go_loopw [8] (fun i wr => PlaAt w gl gr gx A cap len1 i wr) (fun i _ => len1 - (intOf i).toNat)
  case atStart => exact HD.out
  case round =>
    clear HD
    obtain ⟨k, s, γ5, rfl, hk1, hk2, hst⟩ := hrel
    have HS5 := Lib.hid hst
    clear hst
    by_cases hlt : k < len1
    · by_cases h80 : k < 80
      · rcases hr1 with h0 | ⟨b, off, f, rfl, hlc, hm, hcell⟩
        · omega
        obtain ⟨hat, hd, ht⟩ := hcell k hlt
        have hat1 := hat.below (Nat.le_refl _) HS5.out.m.own.below
        obtain ⟨q0, q1, q2, q3, q4, q5, q6, q7, q8, q9⟩ := hat1
        generalize hx : f k = x at *
        clear hcell hat hx
        have ho1 := HS5.out.m.own.new 11 x.obj
        have H1 := Lib.hid (HS5.out.keep ho1 fun k hk => put_other _ _ _ (by omega))
        have hx7 : put γ5 11 wr.heap.size x.obj 11 = some (wr.heap.size, x.obj) := put_same _ _ _ _
        obtain ⟨dom, task, gone, xk, xdm, xpk, xop, xa, xb, xv⟩ := x
        obtain ⟨r0, r1, r2, r3, r4, r5, r6, r7, r8, r9⟩ := LAct.of_own ho1 hx7
        unfold LAct.obj at *
        dsimp only at *
        generalize put γ5 11 _ _ = γ6 at *
        have HX := Lib.hid hx7
        clear hx7 ho1
        -- what goes on once both may have forgotten
        have hgo : ∀ (s1 : LS) (γ1 : Nat → Option (Nat × Obj)) (w1 : World), DL w gl gr gx A cap k s1 γ1 w1 →
            Calls Try.prog 41 #[.pointer (some ⟨gl, 0, none⟩), .int .i64 dom, .int .i64 task, .agg #[.int .i64 xk, .int .i64 xdm, .int .i64 xpk, .int .i64 xop, .int .i64 xa, .int .i64 xb, .int .i64 xv]] w1 (doPost w γ1 100 gl (doR s1 dom task xop xa xb xv)) :=
          fun s1 γ1 w1 h => linkDo_any h.l h.h10 (fun i _ => by have := h.age i; omega) hd ht xk xdm xpk xop xa xb xv
        have HGO := Lib.hid hgo
        have HFT := Lib.hid (And.intro hd ht)
        clear hgo hd ht
        cases gone
        case false =>
          go_wp2_with fail
          refine (HGO.out s γ6 _ H1.out).mono ?_
          rintro e wB ⟨rfl, γB, hB, hkB⟩
          (try dsimp only at hB ⊢)
          have hxB := (hkB 11 (by omega)).trans HX.out
          obtain ⟨r0, r1, r2, r3, r4, r5, r6, r7, r8, r9⟩ := LAct.of_own (x := ⟨dom, task, false, xk, xdm, xpk, xop, xa, xb, xv⟩) (LinksAt.own hB) hxB
          have hMB := (H1.out).m.keep (LinksAt.own hB) fun k hk => hkB k (by have := (H1.out).h10; omega)
          have hdo2 := refDo_any hMB (by omega) (fun i _ => by have := (H1.out).age i; omega) dom task xk xdm xpk xop xa xb xv
          have hA1 : (doR (s) dom task xop xa xb xv).2.2.2.ls.length ≤ 10 := by rw [doR_ls]; exact (H1.out).h10
          have hA2 : ∀ i, ((doR (s) dom task xop xa xb xv).2.2.2.en i).age ≤ k + 1 := fun i => by
            have a1 := doR_age (s) dom task xop xa xb xv i
            have a2 := (H1.out).age i
            omega
          generalize doR (s) dom task xop xa xb xv = R at *
          obtain ⟨y1, y2, y3, s2⟩ := R
          dsimp only at hA1 hA2 hB
          have HB := Lib.hid hB
          have HKB := Lib.hid hkB
          have HA1 := Lib.hid hA1
          have HA2 := Lib.hid hA2
          have HXB := Lib.hid hxB
          clear hB hkB hA1 hA2 hMB hxB
          go_wp2_with fail
          refine hdo2.mono ?_
          rintro e wC ⟨rfl, γC, hC, hkC⟩
          (try dsimp only at hC ⊢)
          have hxC := (hkC 11 (by omega)).trans HXB.out
          have hD2 : DL w gl gr gx A cap (k + 1) s2 γC wC := ⟨LinksAt.keep HB.out hC.own fun k hk => hkC k (by have := HA1.out; omega), hC, HA2.out⟩
          obtain ⟨bw, hbw⟩ : ∃ b, b = writesB s2 dom task := ⟨_, rfl⟩
          have hW : ∀ wr', DL w gl gr gx A cap (k + 1) s2 γC wr' → Calls Try.prog 48 #[.pointer (some ⟨gl, 0, none⟩), .int .i64 dom, .int .i64 task] wr' (TwoPost w gl gr gx A cap (k + 1) s2 γC bw) := fun wr' h =>
            (writes_all h.l h.h10 dom task).mono fun e w' ⟨he, hb'⟩ => ⟨by rw [he, hbw], h.below' hb'⟩
          have hR : ∀ wr', DL w gl gr gx A cap (k + 1) s2 γC wr' → Calls Try.prog 49 #[.pointer (some ⟨gr, 0, none⟩), .int .i64 dom, .int .i64 task] wr' (TwoPost w gl gr gx A cap (k + 1) s2 γC bw) := fun wr' h =>
            (refWrites_any h.m dom task).mono fun e w' ⟨he, hb'⟩ => ⟨by rw [he, hbw], hb' ▸ h⟩
          have hcl : ∀ wr', DL w gl gr gx A cap (k + 1) s2 γC wr' → wr'.cell? ⟨wr.heap.size, 0, none⟩ = some (.int .i64 dom) ∧ wr'.cell? ⟨wr.heap.size, 1, none⟩ = some (.int .i64 task) := fun wr' h =>
            ⟨h.m.own.cell hxC (i := 0) (v := .int .i64 dom) rfl, h.m.own.cell hxC (i := 1) (v := .int .i64 task) rfl⟩
          have hend : ∀ wr', DL w gl gr gx A cap (k + 1) s2 γC wr' → PlaAt w gl gr gx A cap len1 (.int .i64 (↑(k + 1) : Int)) wr' := fun wr' h => ⟨k + 1, s2, γC, rfl, by omega, by omega, h⟩
          have HW := Lib.hid hW
          have HR := Lib.hid hR
          have HCL := Lib.hid hcl
          have HEND := Lib.hid hend
          have n1 : (y1 != y1) = false := by simp
          have n2 : (y2 != y2) = false := by simp
          have n3 : (y3 != y3) = false := by simp
          have n4 : (bw != bw) = false := by simp
          obtain ⟨p0, p1⟩ := hcl _ hD2
          have hD3 : DL w gl gr gx A cap (k + 1) s2 γC wC.drew := hD2.keep hD2.m.own.drew fun _ _ => rfl
          clear hdo2 hC hkC hW hR hcl hend hbw hD2 hxC HGO HFT HB HKB r0 r1 r2 r3 r4 r5 r6 r7 r8 r9
          go_wp2_with fail
          go_region_held3 (fun w' => w'.cell? ⟨wr.heap.size, 0, none⟩ = some (.int .i64 dom) ∧ w'.cell? ⟨wr.heap.size, 1, none⟩ = some (.int .i64 task)) (first | go_keep | exact HCL.out _ (by assumption))
            (first | (go_at_call 48; refine (HW.out _ (by assumption)).mono ?_; (rintro e w' ⟨rfl, h9⟩; obtain ⟨q0, q1⟩ := HCL.out _ h9)) | (go_at_call 49; refine (HR.out _ (by assumption)).mono ?_; (rintro e w' ⟨rfl, h9⟩; obtain ⟨q0, q1⟩ := HCL.out _ h9)))
          all_goals go_wp2_with fail
          all_goals go_roundw
          all_goals first | exact HEND.out _ (by assumption) | (simp [intOf]; omega)
        case true =>
          have hfl := forgetL H1.out.l HFT.out.1 HFT.out.2
          go_wp2_with fail
          refine hfl.mono ?_
          rintro e w4 ⟨rfl, γ4, h4, hk4⟩
          have hx4 := (hk4 11 (by omega)).trans HX.out
          have g0 := (LinksAt.own h4).cell hx4 (i := 0) (v := .int .i64 dom) rfl
          have g1 := (LinksAt.own h4).cell hx4 (i := 1) (v := .int .i64 task) rfl
          have hM4 := H1.out.m.keep (LinksAt.own h4) fun k hk => hk4 k (by omega)
          have hfr := refForget_any hM4 (by omega) dom task
          have H4 := Lib.hid h4
          have HK4 := Lib.hid hk4
          clear hfl h4 hk4 hM4
          go_wp2_with fail
          refine hfr.mono ?_
          rintro e w5 ⟨rfl, γ7, h7, hk7⟩
          have hx5 := (hk7 11 (by omega) (by omega) (by omega)).trans hx4
          obtain ⟨r0, r1, r2, r3, r4, r5, r6, r7, r8, r9⟩ := LAct.of_own (x := ⟨dom, task, true, xk, xdm, xpk, xop, xa, xb, xv⟩) h7.own hx5
          have hS5 : DL w gl gr gx A cap k { s with f := fnDel s.f dom task } γ7 w5 := ⟨LinksAt.keep H4.out h7.own fun k hk => hk7 k (by have : s.ls.length ≤ 10 := H1.out.h10; have : ({ s with f := fnDel s.f dom task } : LS).ls.length = s.ls.length := rfl; omega) (by have : s.ls.length ≤ 10 := H1.out.h10; have : ({ s with f := fnDel s.f dom task } : LS).ls.length = s.ls.length := rfl; omega) (by have : s.ls.length ≤ 10 := H1.out.h10; have : ({ s with f := fnDel s.f dom task } : LS).ls.length = s.ls.length := rfl; omega), h7, H1.out.age⟩
          have HS := Lib.hid hS5
          have HX5 := Lib.hid hx5
          clear h7 hk7 hS5 hx5 hx4 hfr g0 g1
          go_wp2_with fail
          refine (HGO.out { s with f := fnDel s.f dom task } γ7 _ HS.out).mono ?_
          rintro e wB ⟨rfl, γB, hB, hkB⟩
          (try dsimp only at hB ⊢)
          have hxB := (hkB 11 (by omega)).trans HX5.out
          obtain ⟨r0, r1, r2, r3, r4, r5, r6, r7, r8, r9⟩ := LAct.of_own (x := ⟨dom, task, true, xk, xdm, xpk, xop, xa, xb, xv⟩) (LinksAt.own hB) hxB
          have hMB := (HS.out).m.keep (LinksAt.own hB) fun k hk => hkB k (by have := (HS.out).h10; omega)
          have hdo2 := refDo_any hMB (by omega) (fun i _ => by have := (HS.out).age i; omega) dom task xk xdm xpk xop xa xb xv
          have hA1 : (doR ({ s with f := fnDel s.f dom task }) dom task xop xa xb xv).2.2.2.ls.length ≤ 10 := by rw [doR_ls]; exact (HS.out).h10
          have hA2 : ∀ i, ((doR ({ s with f := fnDel s.f dom task }) dom task xop xa xb xv).2.2.2.en i).age ≤ k + 1 := fun i => by
            have a1 := doR_age ({ s with f := fnDel s.f dom task }) dom task xop xa xb xv i
            have a2 := (HS.out).age i
            omega
          generalize doR ({ s with f := fnDel s.f dom task }) dom task xop xa xb xv = R at *
          obtain ⟨y1, y2, y3, s2⟩ := R
          dsimp only at hA1 hA2 hB
          have HB := Lib.hid hB
          have HKB := Lib.hid hkB
          have HA1 := Lib.hid hA1
          have HA2 := Lib.hid hA2
          have HXB := Lib.hid hxB
          clear hB hkB hA1 hA2 hMB hxB
          go_wp2_with fail
          refine hdo2.mono ?_
          rintro e wC ⟨rfl, γC, hC, hkC⟩
          (try dsimp only at hC ⊢)
          have hxC := (hkC 11 (by omega)).trans HXB.out
          have hD2 : DL w gl gr gx A cap (k + 1) s2 γC wC := ⟨LinksAt.keep HB.out hC.own fun k hk => hkC k (by have := HA1.out; omega), hC, HA2.out⟩
          obtain ⟨bw, hbw⟩ : ∃ b, b = writesB s2 dom task := ⟨_, rfl⟩
          have hW : ∀ wr', DL w gl gr gx A cap (k + 1) s2 γC wr' → Calls Try.prog 48 #[.pointer (some ⟨gl, 0, none⟩), .int .i64 dom, .int .i64 task] wr' (TwoPost w gl gr gx A cap (k + 1) s2 γC bw) := fun wr' h =>
            (writes_all h.l h.h10 dom task).mono fun e w' ⟨he, hb'⟩ => ⟨by rw [he, hbw], h.below' hb'⟩
          have hR : ∀ wr', DL w gl gr gx A cap (k + 1) s2 γC wr' → Calls Try.prog 49 #[.pointer (some ⟨gr, 0, none⟩), .int .i64 dom, .int .i64 task] wr' (TwoPost w gl gr gx A cap (k + 1) s2 γC bw) := fun wr' h =>
            (refWrites_any h.m dom task).mono fun e w' ⟨he, hb'⟩ => ⟨by rw [he, hbw], hb' ▸ h⟩
          have hcl : ∀ wr', DL w gl gr gx A cap (k + 1) s2 γC wr' → wr'.cell? ⟨wr.heap.size, 0, none⟩ = some (.int .i64 dom) ∧ wr'.cell? ⟨wr.heap.size, 1, none⟩ = some (.int .i64 task) := fun wr' h =>
            ⟨h.m.own.cell hxC (i := 0) (v := .int .i64 dom) rfl, h.m.own.cell hxC (i := 1) (v := .int .i64 task) rfl⟩
          have hend : ∀ wr', DL w gl gr gx A cap (k + 1) s2 γC wr' → PlaAt w gl gr gx A cap len1 (.int .i64 (↑(k + 1) : Int)) wr' := fun wr' h => ⟨k + 1, s2, γC, rfl, by omega, by omega, h⟩
          have HW := Lib.hid hW
          have HR := Lib.hid hR
          have HCL := Lib.hid hcl
          have HEND := Lib.hid hend
          have n1 : (y1 != y1) = false := by simp
          have n2 : (y2 != y2) = false := by simp
          have n3 : (y3 != y3) = false := by simp
          have n4 : (bw != bw) = false := by simp
          obtain ⟨p0, p1⟩ := hcl _ hD2
          have hD3 : DL w gl gr gx A cap (k + 1) s2 γC wC.drew := hD2.keep hD2.m.own.drew fun _ _ => rfl
          clear hdo2 hC hkC hW hR hcl hend hbw hD2 hxC HGO HFT HB HKB r0 r1 r2 r3 r4 r5 r6 r7 r8 r9
          go_wp2_with fail
          go_region_held3 (fun w' => w'.cell? ⟨wr.heap.size, 0, none⟩ = some (.int .i64 dom) ∧ w'.cell? ⟨wr.heap.size, 1, none⟩ = some (.int .i64 task)) (first | go_keep | exact HCL.out _ (by assumption))
            (first | (go_at_call 48; refine (HW.out _ (by assumption)).mono ?_; (rintro e w' ⟨rfl, h9⟩; obtain ⟨q0, q1⟩ := HCL.out _ h9)) | (go_at_call 49; refine (HR.out _ (by assumption)).mono ?_; (rintro e w' ⟨rfl, h9⟩; obtain ⟨q0, q1⟩ := HCL.out _ h9)))
          all_goals go_wp2_with fail
          all_goals go_roundw
          all_goals first | exact HEND.out _ (by assumption) | (simp [intOf]; omega)
      · obtain rfl : k = 80 := by omega
        have hl80 : (80 : Int) < len1 := by omega
        clear hlt h80 hk1 hk2 hr1
        go_wp2_with fail
        refine (linkAwake _).mono ?_
        rintro e w9 ⟨rfl, hb9⟩
        go_wp2_with fail
        go_ret
        exact ⟨rfl, (HS5.out.m.own.below' hb9).below⟩
    · obtain rfl : k = len1 := by omega
      go_wp2_with fail
      refine (linkAwake _).mono ?_
      rintro e w9 ⟨rfl, hb9⟩
      go_wp2_with fail
      go_ret
      exact ⟨rfl, (HS5.out.m.own.below' hb9).below⟩
end Go.Proofs.Ytniiefcbiapieaa
