/- The walk of LinkDenied. -/
import Derived.Test.YtniiefcbiapieaaNewAll
import Derived.Deep.DeepCutAuto
import Derived.Deep.CutBlock
namespace Go.Proofs.Ytniiefcbiapieaa
open Go.RowKit Go.ChangeMaps


/-- How the round begins. -/
structure DenSt (w : World) (gl gm gx : Nat) (box : Obj) (ls : List LinkS) (q : Nat) (s : LS) (γ : Nat → Option (Nat × Obj)) (wr : World) : Prop where
  l : LAt w γ 100 gl s wr
  m : LAt w γ 200 gm s wr
  x : γ 3 = some (gx, box)
  ls : s.ls = ls
  age : ∀ i, (s.en i).age ≤ q
def DenAt (w : World) (gl gm gx : Nat) (box : Obj) (ls : List LinkS) (len : Nat) (i : Value) (wr : World) : Prop :=
  ∃ (k : Nat) (s : LS) (γ : Nat → Option (Nat × Obj)), i = .int .i64 k ∧ k ≤ len ∧ k ≤ 50 ∧ DenSt w gl gm gx box ls k s γ wr
def DenCut (w : World) (gl gm gx : Nat) (box : Obj) (ls : List LinkS) (k : Nat) (s : LS) (i : Value) (wr : World) : Prop :=
  ∃ (γ : Nat → Option (Nat × Obj)), i = .int .i64 k ∧ DenSt w gl gm gx box ls k s γ wr

theorem DenSt.keep {w wr wr' : World} {gl gm gx : Nat} {box : Obj} {ls : List LinkS} {q : Nat} {s : LS} {γ γ' : Nat → Option (Nat × Obj)} (h : DenSt w gl gm gx box ls q s γ wr) (hl : ls.length ≤ 10) (ho : Own w wr' γ') (hk : ∀ k, k = 3 ∨ 100 ≤ k → γ' k = γ k) : DenSt w gl gm gx box ls q s γ' wr' := by
  have e := h.ls
  refine ⟨LinksAt.keep h.l ho fun k hk' => hk k (by omega), LinksAt.keep h.m ho fun k hk' => hk k (by omega), (hk 3 (by omega)).trans h.x, h.ls, h.age⟩

theorem mayE_denied {ls : List LinkS} {d op : Int} {j : Nat} {l : LinkS} (hl : ls[j]? = some l) (hd : d ≠ (if upB op then l.from_ else l.to)) : mayE ls d op j = 8 ∨ mayE ls d op j = 10 := by
  have hj := (List.getElem?_eq_some_iff.1 hl).1
  unfold mayE
  rw [if_neg (by omega), Int.toNat_natCast, hl]
  dsimp only
  by_cases h : (l.kind = 1) ≠ (op ≤ 32)
  · rw [if_pos h]; exact .inl rfl
  · rw [if_neg h, if_pos hd]; exact .inr rfl
theorem doR_denied {s : LS} {d t op b v : Int} {j : Nat} {l : LinkS} (hl : s.ls[j]? = some l) (hd : d ≠ (if upB op then l.from_ else l.to)) (h1 : 27 ≤ op) (h2 : op ≤ 34) :
    doR s d t op j b v = (8, 0, 0, s) ∨ doR s d t op j b v = (10, 0, 0, s) := by
  unfold doR
  rw [if_neg (by omega)]
  rcases mayE_denied hl hd with h | h
  · rw [if_pos (by rw [h]; decide), h]; exact .inl rfl
  · rw [if_pos (by rw [h]; decide), h]; exact .inr rfl
theorem upB_below {op : Int} (h1 : 27 ≤ op) (h2 : op ≤ 34) : upB op = decide (op ≤ 29 ∨ op = 33) := by
  have : op = 27 ∨ op = 28 ∨ op = 29 ∨ op = 30 ∨ op = 31 ∨ op = 32 ∨ op = 33 ∨ op = 34 := by omega
  rcases this with h | h | h | h | h | h | h | h <;> subst h <;> rfl

set_option maxRecDepth 100000 in
set_option maxHeartbeats 16000000 in
theorem linkDenied_walk (D S : Option Addr) (dn dc sn sc : Nat) (A : Option Addr) (len cap : Nat) (A1 : Option Addr) (len1 cap1 : Nat) (A2 : Option Addr) (len2 cap2 : Nat) (w : World) (hrows : RowsIn w A len cap linkKinds) (hrows1 : RowsIn w A1 len1 cap1 LAct.kinds) (hrows2 : RowsIn w A2 len2 cap2 LAct.kinds) :
    Calls Try.prog 12 #[.agg #[.slice D dn dc, .slice S sn sc, .slice A len cap], .slice A1 len1 cap1, .slice A2 len2 cap2] w fun e w' => e = .returned (.bool true) ∧ Below w.heap.size w w' := by
  obtain ⟨hlc, hlm, ls, hls, hLI⟩ := links_in hrows
  have hLI := hLI (rows_nil hrows)
  have hr1 := rows_lacts hrows1
  have hr2 := rows_lacts hrows2
  clear hrows1 hrows2
  clear hrows
  have hfew := fun w' => few_any D S dn dc sn sc A len cap w' hlc hlm
  rw [← hls] at hfew
  have hl10 : ls.length ≤ 10 := by omega
  clear hls hlc hlm
  go_enter Try.func12, Try.ntmps12
  go_wp2_with fail
  refine (hfew _).mono ?_
  rintro e w1 ⟨rfl, hb⟩
  have hb1 : Below w.heap.size w w1 := ((Below.refl w.heap.size w).alloc (Nat.le_refl _) _).trans (hb.mono (by simp))
  have ho := ((Own.start w).below' hb1).new 3 (.cells #[.slice D dn dc, .slice S sn sc, .slice A ls.length cap] 68)
  have k3 := put_same (fun _ => Option.none) 3 w1.heap.size (.cells #[.slice D dn dc, .slice S sn sc, .slice A ls.length cap] 68)
  have kn : ∀ k, 100 ≤ k → put (fun _ => Option.none) 3 w1.heap.size (.cells #[.slice D dn dc, .slice S sn sc, .slice A ls.length cap] 68) k = none := fun k hk => put_other _ _ _ (by omega)
  clear hb hfew
  go_wp2_with fail
  generalize put (fun _ => Option.none) 3 w1.heap.size _ = γ0 at *
  generalize w1.heap.size = gx at *
  generalize w1.alloc _ = W at *
  have x0 := ho.cell k3 (i := 0) (v := .slice D dn dc) rfl
  have x1 := ho.cell k3 (i := 1) (v := .slice S sn sc) rfl
  have x2 := ho.cell k3 (i := 2) (v := .slice A ls.length cap) rfl
  refine Perm.wp_region_pre [0, 2] [1, 3, 4, 5] (fun w' => w'.cell? ⟨gx, 0, none⟩ = some (.slice D dn dc) ∧ w'.cell? ⟨gx, 1, none⟩ = some (.slice S sn sc) ∧ w'.cell? ⟨gx, 2, none⟩ = some (.slice A ls.length cap)) (by kernel_rfl) (by kernel_rfl) (fun _ _ _ _ _ h => h) (by refine ⟨?_, ?_, ?_⟩ <;> simpa using by assumption) ?_
  repeat
    refine Perm.light_step rfl ?_ (fun w' hS => ?_) ?_
    rotate_left
    · ((try dsimp only at hS); go_simp; try with_reducible rfl)
    simp only [Act.put, List.setIfInBounds_toArray, List.set_cons_zero, List.set_cons_succ]
  refine Perm.light_nil ?_
  refine Perm.tail_call rfl (by rfl) 40 _ _ rfl enters40 #[.agg #[.slice D dn dc, .slice S sn sc, .slice A ls.length cap]] (by rfl) ((linkNew_all 100 _ _ (hLI.below (Nat.le_refl _) ho.drew.below)).mono ?_)
  rintro e w2 ⟨gl, γ1, rfl, hL1, hn1⟩
  have hL2 := LAt.beside hl10 ho.drew hL1 (fun k h1 _ => kn k (by omega))
  have k32 := beside_old (γ1 := γ1) k3
  have kn2 : ∀ k, 200 ≤ k → beside γ0 γ1 k = none := fun k hk => by rw [beside_new (kn k (by omega))]; exact hn1 k (by omega)
  clear hL1 hn1
  generalize beside γ0 γ1 = γ2 at *
  refine ⟨_, rfl, fun _ _ => ⟨(LinksAt.own hL2).cell k32 (i := 0) rfl, (LinksAt.own hL2).cell k32 (i := 1) rfl, (LinksAt.own hL2).cell k32 (i := 2) rfl⟩, ?_⟩
  simp only [Act.put, List.setIfInBounds_toArray, List.set_cons_zero, List.set_cons_succ]
  refine Perm.tail_call rfl (by rfl) 40 _ _ rfl enters40 #[.agg #[.slice D dn dc, .slice S sn sc, .slice A ls.length cap]] (by rfl) ((linkNew_all 200 _ _ (hLI.below (Nat.le_refl _) (LinksAt.own hL2).below)).mono ?_)
  rintro e w3 ⟨gm, γ3, rfl, hL3, hn3⟩
  have hM := LAt.beside hl10 (LinksAt.own hL2) hL3 (fun k h1 _ => kn2 k (by omega))
  have hL := LinksAt.old hL2 (LinksAt.own hL3)
  have k33 := beside_old (γ1 := γ3) k32
  clear hL3 hn3 hL2 kn kn2 k32
  generalize beside γ2 γ3 = γ4 at *
  refine ⟨_, rfl, no_need (by kernel_rfl), ?_⟩
  simp only [Act.put, List.setIfInBounds_toArray, List.set_cons_zero, List.set_cons_succ]
  repeat
    refine Perm.tail_pure rfl (by rfl) ?_ (fun w' => ?_) ?_
    rotate_left
    · (go_simp; try with_reducible rfl)
    simp only [Act.put, List.setIfInBounds_toArray, List.set_cons_zero, List.set_cons_succ]
  refine Perm.tail_nil ?_
  have hD : DenAt w gl gm gx (polO D S dn dc sn sc A ls.length cap) ls len1 (.int .i64 0) w3 := ⟨0, initS ls, γ4, rfl, by omega, by omega, ⟨hL, hM, k33, rfl, fun i => by rw [initS_age]; omega⟩⟩
  have HD := Lib.hid hD
  clear hD hL hM k33 x0 x1 x2 ho k3 hb1
  go_wp2_with fail
  go_loopw [10] (fun i wr => DenAt w gl gm gx (polO D S dn dc sn sc A ls.length cap) ls len1 i wr) (fun i _ => len1 - (intOf i).toNat)
  case atStart => exact HD.out
  case round =>
    clear HD
    obtain ⟨k, s, γ, rfl, hk1, hk2, hst⟩ := hrel
    have HST := Lib.hid hst
    by_cases hlt : k < len1
    · by_cases h50 : k < 50
      · clear hst
        go_upto_if 43 with (fail)
        go_cut [10] (fun i' wx => DenCut w gl gm gx (polO D S dn dc sn sc A ls.length cap) ls k s i' wx)
        case first =>
          by_cases hk3 : k < len2
          · rcases hr2 with h0 | ⟨b, off, f, rfl, hlc, hm, hcell⟩
            · omega
            obtain ⟨hat, hd, ht⟩ := hcell k hk3
            have hat1 := hat.below (Nat.le_refl _) (LinksAt.own HST.out.l).below
            obtain ⟨q0, q1, q2, q3, q4, q5, q6, q7, q8, q9⟩ := hat1
            generalize hx : f k = x at *
            clear hcell hat hx
            have ho1 := (LinksAt.own HST.out.l).new 11 x.obj
            have H1 := Lib.hid (HST.out.keep hl10 ho1 fun k hk => put_other _ _ _ (by omega))
            have hx7 : put γ 11 wr.heap.size x.obj 11 = some (wr.heap.size, x.obj) := put_same _ _ _ _
            obtain ⟨dom, task, gone, xk, xdm, xpk, xop, xa, xb, xv⟩ := x
            obtain ⟨r0, r1, r2, r3, r4, r5, r6, r7, r8, r9⟩ := LAct.of_own ho1 hx7
            unfold LAct.obj at *
            dsimp only at *
            generalize put γ 11 _ _ = γ5 at *
            have HX := Lib.hid hx7
            have x2 := (LinksAt.own H1.out.l).cell H1.out.x (i := 2) (v := .slice A ls.length cap) rfl
            have lx := (LinksAt.own H1.out.l).lt H1.out.x
            have hout : ∀ i', i' = .int .i64 k → DenCut w gl gm gx (polO D S dn dc sn sc A ls.length cap) ls k s i' _ := fun i' hi => ⟨γ5, hi, H1.out⟩
            have HO := Lib.hid hout
            clear hx7 ho1 hout
            by_cases c1 : 0 ≤ xa
            · by_cases c2 : xa < ls.length
              · by_cases c3 : 27 ≤ xop
                · by_cases c4 : xop ≤ 34
                  · -- an act on a link that is there
                    obtain ⟨j, rfl⟩ : ∃ j : Nat, xa = j := ⟨xa.toNat, by omega⟩
                    have hj : j < ls.length := by omega
                    rcases hLI.2 with ⟨h0, _⟩ | ⟨pb, po, rfl, hcap, hread⟩
                    · rw [h0] at hj; simp at hj
                    have hl : ls[j]? = some ls[j] := List.getElem?_eq_getElem hj
                    have hq : ∀ (i : Nat) (u : Value), ls[j].vals[i]? = some u → (wr.alloc (Obj.cells #[.int .i64 dom, .int .i64 task, .bool gone, .int .i64 xk, .int .i64 xdm, .int .i64 xpk, .int .i64 xop, .int .i64 ↑j, .int .i64 xb, .int .i64 xv] 76)).cell? ⟨pb, po + j * 4 + i, none⟩ = some u := by
                      intro i u hi
                      rw [Nat.add_assoc]
                      have hi4 : i < 4 := (List.getElem?_eq_some_iff.1 hi).1
                      have h1 := hread (j * 4 + i) u ((linkVals_get hl i hi4).trans hi)
                      rw [WideShapes.add_plain] at h1
                      exact ((LinksAt.own H1.out.l).below.cell (World.block_lt_of_cell? w _ h1)).trans h1
                    generalize hll : ls[j] = l at *
                    obtain ⟨kind, fr, tow, size⟩ := l
                    have q0' : (wr.alloc (Obj.cells #[.int .i64 dom, .int .i64 task, .bool gone, .int .i64 xk, .int .i64 xdm, .int .i64 xpk, .int .i64 xop, .int .i64 ↑j, .int .i64 xb, .int .i64 xv] 76)).cell? ⟨pb, po + j * 4, none⟩ = some (.int .i64 kind) := hq 0 _ rfl
                    have q1' : (wr.alloc (Obj.cells #[.int .i64 dom, .int .i64 task, .bool gone, .int .i64 xk, .int .i64 xdm, .int .i64 xpk, .int .i64 xop, .int .i64 ↑j, .int .i64 xb, .int .i64 xv] 76)).cell? ⟨pb, po + j * 4 + 1, none⟩ = some (.int .i64 fr) := hq 1 _ rfl
                    have q2' : (wr.alloc (Obj.cells #[.int .i64 dom, .int .i64 task, .bool gone, .int .i64 xk, .int .i64 xdm, .int .i64 xpk, .int .i64 xop, .int .i64 ↑j, .int .i64 xb, .int .i64 xv] 76)).cell? ⟨pb, po + j * 4 + 2, none⟩ = some (.int .i64 tow) := hq 2 _ rfl
                    have q3' : (wr.alloc (Obj.cells #[.int .i64 dom, .int .i64 task, .bool gone, .int .i64 xk, .int .i64 xdm, .int .i64 xpk, .int .i64 xop, .int .i64 ↑j, .int .i64 xb, .int .i64 xv] 76)).cell? ⟨pb, po + j * 4 + 3, none⟩ = some (.int .i64 size) := hq 3 _ rfl
                    have HL := Lib.hid hl
                    have hjn : (j : Int) < ls.length := by omega
                    clear hq hread hl hll
                    have hsl : s.ls[j]? = some ⟨kind, fr, tow, size⟩ := by rw [H1.out.ls]; exact HL.out
                    have HSL := Lib.hid hsl
                    clear hsl
                    by_cases hbel : xop ≤ 29
                    · have HUP := Lib.hid (show upB xop = true by rw [upB_below c3 c4]; simp; omega)
                      by_cases hdd : dom = fr
                      · have hdb : (dom != fr) = false := by simpa using hdd
                        have hdb2 : (dom == fr) = true := by simpa using hdd
                        have hfin : DenCut w gl gm gx (polO D S dn dc sn sc (some ⟨pb, po, none⟩) ls.length cap) ls k s (.int .i64 k) ((wr.alloc (.cells #[.int .i64 dom, .int .i64 task, .bool gone, .int .i64 xk, .int .i64 xdm, .int .i64 xpk, .int .i64 xop, .int .i64 ↑j, .int .i64 xb, .int .i64 xv] 76)).alloc (.cells #[.int .i64 kind, .int .i64 fr, .int .i64 tow, .int .i64 size] 78)) := ⟨_, rfl, H1.out.keep hl10 ((LinksAt.own H1.out.l).new 12 _) fun k hk => put_other _ _ _ (by omega)⟩
                        have HF := Lib.hid hfin
                        clear hdd hfin
                        go_wp2_with fail
                        go_meet
                        exact HF.out
                      · have hdb : (dom != fr) = true := by simpa using hdd
                        have hdb2 : (dom == fr) = false := by simpa using hdd
                        have h12 := H1.out.keep (γ' := put γ5 12 (wr.alloc (.cells #[.int .i64 dom, .int .i64 task, .bool gone, .int .i64 xk, .int .i64 xdm, .int .i64 xpk, .int .i64 xop, .int .i64 ↑j, .int .i64 xb, .int .i64 xv] 76)).heap.size (.cells #[.int .i64 kind, .int .i64 fr, .int .i64 tow, .int .i64 size] 78)) hl10 ((LinksAt.own H1.out.l).new 12 _) fun k hk => put_other _ _ _ (by omega)
                        have hdo := linkDo_any h12.l (by rw [H1.out.ls]; exact hl10) (fun i _ => by have := H1.out.age i; omega) hd ht xk xdm xpk xop j xb xv
                        have H12 := Lib.hid h12
                        have hden := doR_denied (t := task) (b := xb) (v := xv) HSL.out (show dom ≠ (if upB xop then fr else tow) by rw [HUP.out]; exact hdd) (by omega) (by omega)
                        clear hdd h12
                        go_wp2_with fail
                        rcases hden with hden | hden
                        all_goals
                          rw [hden] at hdo
                          clear hden
                          refine hdo.mono ?_
                          rintro e w5 ⟨rfl, γ7, h7, hk7⟩
                          (try dsimp only at h7 ⊢)
                          have hfin : DenCut w gl gm gx (polO D S dn dc sn sc (some ⟨pb, po, none⟩) ls.length cap) ls k s (.int .i64 k) w5 := ⟨γ7, rfl, ⟨h7, LinksAt.keep H12.out.m (LinksAt.own h7) (fun k hk => hk7 k (by have := H1.out.ls; omega)), (hk7 3 (by omega)).trans H12.out.x, H1.out.ls, H1.out.age⟩⟩
                          have HF := Lib.hid hfin
                          clear hfin h7 hk7 hdo
                          go_wp2_with fail
                          go_meet
                          exact HF.out
                    · by_cases h33 : xop = 33
                      · subst h33
                        have HUP := Lib.hid (show upB 33 = true from rfl)
                        by_cases hdd : dom = fr
                        · have hdb : (dom != fr) = false := by simpa using hdd
                          have hdb2 : (dom == fr) = true := by simpa using hdd
                          have hfin : DenCut w gl gm gx (polO D S dn dc sn sc (some ⟨pb, po, none⟩) ls.length cap) ls k s (.int .i64 k) ((wr.alloc (.cells #[.int .i64 dom, .int .i64 task, .bool gone, .int .i64 xk, .int .i64 xdm, .int .i64 xpk, .int .i64 33, .int .i64 ↑j, .int .i64 xb, .int .i64 xv] 76)).alloc (.cells #[.int .i64 kind, .int .i64 fr, .int .i64 tow, .int .i64 size] 78)) := ⟨_, rfl, H1.out.keep hl10 ((LinksAt.own H1.out.l).new 12 _) fun k hk => put_other _ _ _ (by omega)⟩
                          have HF := Lib.hid hfin
                          clear hdd hfin
                          go_wp2_with fail
                          go_meet
                          exact HF.out
                        · have hdb : (dom != fr) = true := by simpa using hdd
                          have hdb2 : (dom == fr) = false := by simpa using hdd
                          have h12 := H1.out.keep (γ' := put γ5 12 (wr.alloc (.cells #[.int .i64 dom, .int .i64 task, .bool gone, .int .i64 xk, .int .i64 xdm, .int .i64 xpk, .int .i64 33, .int .i64 ↑j, .int .i64 xb, .int .i64 xv] 76)).heap.size (.cells #[.int .i64 kind, .int .i64 fr, .int .i64 tow, .int .i64 size] 78)) hl10 ((LinksAt.own H1.out.l).new 12 _) fun k hk => put_other _ _ _ (by omega)
                          have hdo := linkDo_any h12.l (by rw [H1.out.ls]; exact hl10) (fun i _ => by have := H1.out.age i; omega) hd ht xk xdm xpk 33 j xb xv
                          have H12 := Lib.hid h12
                          have hden := doR_denied (t := task) (b := xb) (v := xv) HSL.out (show dom ≠ (if upB 33 then fr else tow) by rw [HUP.out]; exact hdd) (by decide) (by decide)
                          clear hdd h12
                          go_wp2_with fail
                          rcases hden with hden | hden
                          all_goals
                            rw [hden] at hdo
                            clear hden
                            refine hdo.mono ?_
                            rintro e w5 ⟨rfl, γ7, h7, hk7⟩
                            (try dsimp only at h7 ⊢)
                            have hfin : DenCut w gl gm gx (polO D S dn dc sn sc (some ⟨pb, po, none⟩) ls.length cap) ls k s (.int .i64 k) w5 := ⟨γ7, rfl, ⟨h7, LinksAt.keep H12.out.m (LinksAt.own h7) (fun k hk => hk7 k (by have := H1.out.ls; omega)), (hk7 3 (by omega)).trans H12.out.x, H1.out.ls, H1.out.age⟩⟩
                            have HF := Lib.hid hfin
                            clear hfin h7 hk7 hdo
                            go_wp2_with fail
                            go_meet
                            exact HF.out
                      · have b33 : (xop == 33) = false := by simpa using h33
                        have HUP := Lib.hid (show upB xop = false by rw [upB_below c3 c4]; simp; omega)
                        have hge : 29 < xop := by omega
                        have hb29 : decide (xop ≤ 29) = false := by simpa using hge
                        clear hbel h33
                        by_cases hdd : dom = tow
                        · have hdb : (dom != tow) = false := by simpa using hdd
                          have hdb2 : (dom == tow) = true := by simpa using hdd
                          have hfin : DenCut w gl gm gx (polO D S dn dc sn sc (some ⟨pb, po, none⟩) ls.length cap) ls k s (.int .i64 k) ((wr.alloc (.cells #[.int .i64 dom, .int .i64 task, .bool gone, .int .i64 xk, .int .i64 xdm, .int .i64 xpk, .int .i64 xop, .int .i64 ↑j, .int .i64 xb, .int .i64 xv] 76)).alloc (.cells #[.int .i64 kind, .int .i64 fr, .int .i64 tow, .int .i64 size] 78)) := ⟨_, rfl, H1.out.keep hl10 ((LinksAt.own H1.out.l).new 12 _) fun k hk => put_other _ _ _ (by omega)⟩
                          have HF := Lib.hid hfin
                          clear hdd hfin
                          go_wp2_with fail
                          go_meet
                          exact HF.out
                        · have hdb : (dom != tow) = true := by simpa using hdd
                          have hdb2 : (dom == tow) = false := by simpa using hdd
                          have h12 := H1.out.keep (γ' := put γ5 12 (wr.alloc (.cells #[.int .i64 dom, .int .i64 task, .bool gone, .int .i64 xk, .int .i64 xdm, .int .i64 xpk, .int .i64 xop, .int .i64 ↑j, .int .i64 xb, .int .i64 xv] 76)).heap.size (.cells #[.int .i64 kind, .int .i64 fr, .int .i64 tow, .int .i64 size] 78)) hl10 ((LinksAt.own H1.out.l).new 12 _) fun k hk => put_other _ _ _ (by omega)
                          have hdo := linkDo_any h12.l (by rw [H1.out.ls]; exact hl10) (fun i _ => by have := H1.out.age i; omega) hd ht xk xdm xpk xop j xb xv
                          have H12 := Lib.hid h12
                          have hden := doR_denied (t := task) (b := xb) (v := xv) HSL.out (show dom ≠ (if upB xop then fr else tow) by rw [HUP.out]; exact hdd) (by omega) (by omega)
                          clear hdd h12
                          go_wp2_with fail
                          rcases hden with hden | hden
                          all_goals
                            rw [hden] at hdo
                            clear hden
                            refine hdo.mono ?_
                            rintro e w5 ⟨rfl, γ7, h7, hk7⟩
                            (try dsimp only at h7 ⊢)
                            have hfin : DenCut w gl gm gx (polO D S dn dc sn sc (some ⟨pb, po, none⟩) ls.length cap) ls k s (.int .i64 k) w5 := ⟨γ7, rfl, ⟨h7, LinksAt.keep H12.out.m (LinksAt.own h7) (fun k hk => hk7 k (by have := H1.out.ls; omega)), (hk7 3 (by omega)).trans H12.out.x, H1.out.ls, H1.out.age⟩⟩
                            have HF := Lib.hid hfin
                            clear hfin h7 hk7 hdo
                            go_wp2_with fail
                            go_meet
                            exact HF.out
                  · go_wp2_with fail
                    go_meet
                    exact HO.out _ rfl
                · go_wp2_with fail
                  go_meet
                  exact HO.out _ rfl
              · go_wp2_with fail
                go_meet
                exact HO.out _ rfl
            · go_wp2_with fail
              go_meet
              exact HO.out _ rfl
          · go_wp2_with fail
            go_meet
            exact ⟨γ, rfl, HST.out⟩
        case rest =>
          obtain ⟨γ5, rfl, hst⟩ := hcut
          have HS5 := Lib.hid hst
          clear HST hst
          rcases hr1 with h0 | ⟨b, off, f, rfl, hlc, hm, hcell⟩
          · omega
          obtain ⟨hat, hd, ht⟩ := hcell k hlt
          have hat1 := hat.below (Nat.le_refl _) (LinksAt.own HS5.out.l).below
          obtain ⟨q0, q1, q2, q3, q4, q5, q6, q7, q8, q9⟩ := hat1
          generalize hx : f k = x at *
          clear hcell hat hx
          have ho1 := (LinksAt.own HS5.out.l).new 11 x.obj
          have H1 := Lib.hid (HS5.out.keep hl10 ho1 fun k hk => put_other _ _ _ (by omega))
          have hx7 : put γ5 11 wc.heap.size x.obj 11 = some (wc.heap.size, x.obj) := put_same _ _ _ _
          obtain ⟨dom, task, gone, xk, xdm, xpk, xop, xa, xb, xv⟩ := x
          obtain ⟨r0, r1, r2, r3, r4, r5, r6, r7, r8, r9⟩ := LAct.of_own ho1 hx7
          unfold LAct.obj at *
          dsimp only at *
          generalize put γ5 11 _ _ = γ6 at *
          have HX := Lib.hid hx7
          have hdo := linkDo_any H1.out.l (by rw [H1.out.ls]; exact hl10) (fun i _ => by have := H1.out.age i; omega) hd ht xk xdm xpk xop xa xb xv
          have hR2 := doR_ls s dom task xop xa xb xv
          have hR3 := doR_age s dom task xop xa xb xv
          generalize hR : doR s dom task xop xa xb xv = R at *
          obtain ⟨y1, y2, y3, s'⟩ := R
          have HR := Lib.hid hR
          have HA := Lib.hid (And.intro hR2 hR3)
          clear hx7 ho1 hR2 hR3 hR
          go_wp2_with fail
          refine hdo.mono ?_
          rintro e w5 ⟨rfl, γ7, h7, hk7⟩
          (try dsimp only at h7 ⊢)
          have hx7 := (hk7 11 (by omega)).trans HX.out
          obtain ⟨r0, r1, r2, r3, r4, r5, r6, r7, r8, r9⟩ := LAct.of_own (x := ⟨dom, task, gone, xk, xdm, xpk, _, xa, xb, xv⟩) (LinksAt.own h7) hx7
          have h7m : LAt w γ7 200 gm s w5 := LinksAt.keep H1.out.m (LinksAt.own h7) fun k hk => hk7 k (by have := H1.out.ls; omega)
          have hdo2 := linkDo_any h7m (by rw [H1.out.ls]; exact hl10) (fun i _ => by have := H1.out.age i; omega) hd ht xk xdm xpk xop xa xb xv
          rw [HR.out] at hdo2
          have H7 := Lib.hid h7
          have HK7 := Lib.hid hk7
          clear hdo h7 hk7 hx7 h7m
          try dsimp only
          go_wp2_with fail
          refine hdo2.mono ?_
          rintro e w6 ⟨rfl, γ8, h8, hk8⟩
          (try dsimp only at h8 ⊢)
          have hrel' : DenAt w gl gm gx (polO D S dn dc sn sc A ls.length cap) ls len1 (.int .i64 (↑(k + 1) : Int)) w6 := by
            refine ⟨k + 1, s', γ8, rfl, by omega, by omega, ⟨LinksAt.keep H7.out (LinksAt.own h8) (fun k hk => hk8 k (by rw [show s'.ls = ls from HA.out.1.trans H1.out.ls] at hk; omega)), h8, (hk8 3 (by omega)).trans ((HK7.out 3 (by omega)).trans H1.out.x), HA.out.1.trans H1.out.ls, fun i => ?_⟩⟩
            have a1 : (s'.en i).age ≤ (s.en i).age + 1 := HA.out.2 i
            have a2 := H1.out.age i
            omega
          have HRR := Lib.hid hrel'
          have n1 : (y1 != y1) = false := by simp
          have n2 : (y2 != y2) = false := by simp
          have n3 : (y3 != y3) = false := by simp
          clear hdo2 h8 hk8 hrel'
          go_wp2_with fail
          go_roundw
          case rel => exact HRR.out
          case measure => simp [intOf]; omega
      · obtain rfl : k = 50 := by omega
        have hl50 : (50 : Int) < len1 := by omega
        clear hlt h50 hk1 hk2 hr1 hr2
        go_wp2_with fail
        refine (linkAwake _).mono ?_
        rintro e w9 ⟨rfl, hb9⟩
        go_wp2_with fail
        go_ret
        exact ⟨rfl, ((LinksAt.own HST.out.l).below' hb9).below⟩
    · obtain rfl : k = len1 := by omega
      go_wp2_with fail
      refine (linkAwake _).mono ?_
      rintro e w9 ⟨rfl, hb9⟩
      go_wp2_with fail
      go_ret
      exact ⟨rfl, ((LinksAt.own HST.out.l).below' hb9).below⟩
end Go.Proofs.Ytniiefcbiapieaa
