/- The walk of LinkPumps. -/
import Derived.Test.YtniiefcbiapieaaLActs
import Derived.Test.YtniiefcbiapieaaPumpOrderWalk
import Derived.Test.YtniiefcbiapieaaSlc2
namespace Go.Proofs.Ytniiefcbiapieaa
open Go.RowKit Go.ChangeMaps

def pmLs (z : Int) : List LinkS := [⟨2, 0, 1, z⟩]
def pmS (z : Int) (en : Nat → EndS) : LS := ⟨pmLs z, en, fun _ _ => none⟩
theorem pmLen (z : Int) (en : Nat → EndS) : (pmS z en).ls.length ≤ 10 := by show 1 ≤ 10; decide
theorem pm_send (z : Int) (en : Nat → EndS) (s : Nat) (all : List Int) (next : Int) (h : en 0 = .tap s all next) (t b v : Int) : doR (pmS z en) 0 t 33 0 b v = (0, 0, 0, pmS z (updE en 0 (.tap s (all ++ [b]) next))) := by
  have hm : mayE (pmLs z) 0 33 0 = 0 := rfl
  unfold doR
  rw [if_neg (by decide), if_neg (by simp [pmS, hm])]
  show (match en 0 with | .tap z all next => _ | .cell c => _) = _
  rw [h]
  rfl
theorem pm_recv (z : Int) (en : Nat → EndS) (s : Nat) (all : List Int) (next : Int) (h : en 0 = .tap s all next) (t b v : Int) : doR (pmS z en) 1 t 34 0 b v = (recvE all next, recvV s all next, recvL s all next, pmS z (updE en 0 (.tap s all (recvA s all next)))) := by
  have hm : mayE (pmLs z) 1 34 0 = 0 := rfl
  unfold doR
  rw [if_neg (by decide), if_neg (by simp [pmS, hm])]
  show (match en 0 with | .tap z all next => _ | .cell c => _) = _
  rw [h]
  rfl
theorem pm_age {z : Int} {en : Nat → EndS} {s : Nat} {all : List Int} {next : Int} (h : en 0 = .tap s all next) (ha : all.length < 999) : ∀ i, i < (pmS z en).ls.length → ((pmS z en).en i).age < 999 := by
  intro i hi
  have : i = 0 := by have : (pmS z en).ls.length = 1 := rfl; omega
  subst this
  show (en 0).age < 999
  rw [h]; exact ha

theorem recv_mid4 {s n : Nat} {all : List Int} (h1 : 1 ≤ s) (h : n < all.length) : ∃ m : Nat, n ≤ m ∧ m < all.length ∧
    recvV s all n = all.getD m 0 ∧ recvL s all n = (m : Int) - n ∧ recvA s all n = (m : Int) + 1 ∧ recvE all n = 0 := by
  obtain ⟨m, a, b, c⟩ := recv_mid_eq h1 h
  unfold rec4 at c
  simp only [Ending.returned.injEq, Value.tuple.injEq, Array.mk.injEq, List.cons.injEq, Value.int.injEq, true_and, and_true] at c
  exact ⟨m, a, b, c.1, c.2.1, c.2.2.1, c.2.2.2⟩
theorem recv_end4 {s : Nat} {all : List Int} : recvV s all all.length = 0 ∧ recvL s all all.length = 0 ∧ recvA s all all.length = all.length ∧ recvE all all.length = 18 := by
  have c := recv_end_eq (s := s) (all := all)
  unfold rec4 at c
  simp only [Ending.returned.injEq, Value.tuple.injEq, Array.mk.injEq, List.cons.injEq, Value.int.injEq, true_and, and_true] at c
  exact c

/-- How the round begins. -/
def LPumpAt (w wb : World) (z : Int) (s gl len : Nat) (sv at_ i : Value) (wr : World) : Prop :=
  ∃ (k n : Nat) (all : List Int) (γ : Nat → Option (Nat × Obj)) (en : Nat → EndS), i = .int .i64 k ∧ at_ = .int .i64 n ∧ k ≤ len ∧ k ≤ 80 ∧ all.length ≤ k ∧ n ≤ all.length ∧
    LAt wb γ 20 gl (pmS z en) wr ∧ en 0 = .tap s all n ∧ SliceAt γ 8 3 1 sv all.length (ints all) ∧ Below w.heap.size w wb

set_option maxRecDepth 100000 in
set_option maxHeartbeats 8000000 in
theorem linkPumps_nat (sz : Nat) (hsz : sz < 256) (A : Option Addr) (len cap : Nat) (w : World) (hrows : RowsIn w A len cap LAct.kinds) :
    Calls Try.prog 15 #[.int .u8 sz, .slice A len cap] w fun e w' => e = .returned (.bool true) ∧ Below w.heap.size w w' := by
  have hrows' := rows_lacts hrows
  have hz : (1 : Int) ≤ 1 + (sz : Int) % 8 ∧ 1 + (sz : Int) % 8 ≤ 8 := by omega
  clear hrows
  go_enter Try.func15, Try.ntmps15
  go_wp2_with fail
  refine (policy_any (Own.start w) 9 2 (1 + (sz : Int) % 8)).mono ?_
  rintro e w1 ⟨g, rfl, ho⟩
  have hb1 := ho.below
  have hread := one_read ho (put_same _ _ _ _)
  clear ho
  generalize 1 + (sz : Int) % 8 = z at *
  go_wp2_with fail
  refine (linkNew_any 20 g 0 1 (.slice none 0 0) (.slice none 0 0) [⟨2, 0, 1, z⟩] (by show 1 ≤ 10; decide) w1 (by show 1 ≤ 1; decide) hread (one_cells 2 z)).mono ?_
  rintro e w2 ⟨gl, γ, en, rfl, hL, hen⟩
  have he0 : en 0 = .tap (clampN 8 z) [] 0 := hen 0 _ rfl
  obtain ⟨hs1, hs8⟩ := clamp_bounds (hi := 8) (by omega) z
  generalize clampN 8 z = s at *
  have ho2 := (LinksAt.own hL).new 8 (.cells #[] 3)
  have hL0 : LAt w1 (put γ 8 w2.heap.size (.cells #[] 3)) 20 gl (pmS z en) (w2.alloc (.cells #[] 3)) := LinksAt.keep hL ho2 fun k hk => put_other _ _ _ (by omega)
  have hN : LPumpAt w w1 z s gl len (.slice (some ⟨w2.heap.size, 0, none⟩) 0 0) (.int .i64 0) (.int .i64 0) (w2.alloc (.cells #[] 3)) :=
    ⟨0, 0, [], _, en, rfl, rfl, by omega, by omega, by simp, by simp, hL0, he0, ⟨by simp [ints], .inr ⟨_, 0, #[], rfl, put_same _ _ _ _, by simp, by simp, by simp, by simp [ints]⟩⟩, hb1⟩
  have HN := Lib.hid hN
  clear hN hL hL0 hen he0 hread ho2
  go_wp2_with fail
  go_loopw [6, 7, 8] (fun sv at_ i wr => LPumpAt w w1 z s gl len sv at_ i wr) (fun _ _ i _ => len - (intOf i).toNat)
  case atStart => exact HN.out
  case round =>
    clear HN
    obtain ⟨k, n, all, γ1, en1, rfl, rfl, hk1, hk2, hk3, hn, hL, he, hsl, _⟩ := hrel
    by_cases hlt : k < len
    · by_cases h100 : k < 80
      · rcases hrows' with h0 | ⟨b, off, f, rfl, hlc, hm, hcell⟩
        · omega
        obtain ⟨hat, hd, ht⟩ := hcell k hlt
        have hat1 := hat.below (Nat.le_refl _) (hb1.trans ((LinksAt.own hL).below.mono hb1.size))
        obtain ⟨q0, q1, q2, q3, q4, q5, q6, q7, q8, q9⟩ := hat1
        generalize hx : f k = x at *
        clear hcell hat hx
        have ho1 := (LinksAt.own hL).new 7 x.obj
        have hL1 : LAt w1 (put γ1 7 wr.heap.size x.obj) 20 gl (pmS z en1) (wr.alloc x.obj) := LinksAt.keep hL ho1 fun k hk => put_other _ _ _ (by omega)
        have hx7 : put γ1 7 wr.heap.size x.obj 7 = some (wr.heap.size, x.obj) := put_same _ _ _ _
        have hsl1 := hsl.keep (γ' := put γ1 7 wr.heap.size x.obj) (put_other _ _ _ (by decide))
        obtain ⟨dom, task, gone, xk, xdm, xpk, xop, xa, xb, xv⟩ := x
        obtain ⟨r0, r1, r2, r3, r4, r5, r6, r7, r8, r9⟩ := LAct.of_own ho1 hx7
        unfold LAct.obj at *
        dsimp only at *
        generalize put γ1 7 _ _ = γ2 at *
        have H1 := Lib.hid hL1
        have HX := Lib.hid hx7
        have HE := Lib.hid he
        have HS := Lib.hid hsl1
        have hAlen : all.length < 1000 := by omega
        clear hL hL1 hx7 he hsl hsl1 ho1
        by_cases hpar : dom.tmod 2 = 0
        · have hpart : (dom.tmod 2 == 0) = true := by simpa using hpar
          clear hpar
          obtain ⟨A2, cap2, rfl, hcap2⟩ := HS.out.form
          go_wp2_with fail
          have hdo := linkDo_any H1.out (d := 0) (t := task) (pmLen _ _) (pm_age HE.out (by omega)) fits0 ht 0 0 0 33 0 xb 0
          rw [pm_send _ _ _ _ _ HE.out] at hdo
          refine hdo.mono ?_
          rintro e w3 ⟨rfl, γ3, h3, hk3⟩
          clear hdo
          have hs3 := HS.out.keep (hk3 8 (by omega))
          have hx3 := (hk3 7 (by omega)).trans HX.out
          have p8 := (LinksAt.own h3).cell hx3 (i := 8) (v := .int .i64 xb) rfl
          have H3 := Lib.hid h3
          have HS3 := Lib.hid hs3
          clear h3 hk3 hs3 hx3
          dsimp only
          go_wp2_with (at_builtin; refine wpList_append_O rfl (.tmp 55) (.tmp 59) 37 rfl 3 (.int .i64 0) 1 8 Try.underlying37 Try.info3 rfl (by decide) ((LinksAt.own H3.out).below' ((Below.refl _ _).alloc (Nat.le_refl _) _)) HS3.out rfl ⟨w3.heap.size, 0, none⟩ 1 1 [.int .i64 xb] rfl rfl news_one (by simp [Value.oneCell']) (by omega) (by unfold maxLen; omega) (by omega) ?_)
          intro g4 cap4 w4 γ4 ho4 hs4 hk4
          have hlen : (all ++ [xb]).length = all.length + 1 := by simp
          have hrel' : LPumpAt w w1 z s gl len (.slice (some ⟨g4, 0, none⟩) (all.length + 1) cap4) (.int .i64 n) (.int .i64 (↑(k + 1) : Int)) w4 := by
            refine ⟨k + 1, n, all ++ [xb], γ4, _, rfl, rfl, by omega, by omega, by omega, by omega, LinksAt.keep H3.out ho4 (fun k hk => hk4 k (by omega)), if_pos rfl, ?_, hb1⟩
            rw [hlen, ← ints_snoc]
            exact hs4
          have HR := Lib.hid hrel'
          clear hrel' ho4 hs4 hk4 hlen
          go_wp2_with fail
          go_roundw
          case rel => exact HR.out
          case measure => simp [intOf]; omega
        · have hpart : (dom.tmod 2 == 0) = false := by simpa using hpar
          clear hpar
          obtain ⟨A2, cap2, rfl, hcap2⟩ := HS.out.form
          go_wp2_with fail
          have hdo := linkDo_any H1.out (d := 1) (t := task) (pmLen _ _) (pm_age HE.out (by omega)) fits1 ht 0 0 0 34 0 0 0
          rw [pm_recv _ _ _ _ _ HE.out] at hdo
          refine hdo.mono ?_
          rintro e w3 ⟨rfl, γ3, h3, hk3⟩
          clear hdo
          have hs3 := HS.out.keep (hk3 8 (by omega))
          dsimp only
          by_cases hne : n = all.length
          · subst hne
            obtain ⟨e1, e2, e3, e4⟩ := recv_end4 (s := s) (all := all)
            rw [e1, e2, e4]
            rw [e3] at h3
            have hrel' : LPumpAt w w1 z s gl len (.slice A2 all.length cap2) (.int .i64 all.length) (.int .i64 (↑(k + 1) : Int)) w3 :=
              ⟨k + 1, all.length, all, γ3, _, rfl, rfl, by omega, by omega, by omega, by omega, h3, if_pos rfl, hs3, hb1⟩
            have HR := Lib.hid hrel'
            clear hrel' h3 hk3 hs3 e1 e2 e3 e4
            go_wp2_with fail
            go_roundw
            case rel => exact HR.out
            case measure => simp [intOf]; omega
          · obtain ⟨m, hm1, hm2, e1, e2, e3, e4⟩ := recv_mid4 (s := s) (n := n) (all := all) hs1 (by omega)
            rw [e1, e2, e4]
            rw [e3] at h3
            obtain ⟨ga, capx, hA, hcell⟩ := hs3.at_ (LinksAt.own h3) hm2
            rw [ints_get _ _ hm2] at hcell
            cases hA
            obtain ⟨u, hu⟩ : ∃ u, u = all.getD m 0 := ⟨_, rfl⟩
            rw [← hu] at hcell ⊢
            have hrel' : LPumpAt w w1 z s gl len (.slice (some ⟨ga, 0, none⟩) all.length cap2) (.int .i64 (↑(m + 1) : Int)) (.int .i64 (↑(k + 1) : Int)) w3 :=
              ⟨k + 1, m + 1, all, γ3, _, rfl, rfl, by omega, by omega, by omega, by omega, h3, if_pos rfl, hs3, hb1⟩
            have HR := Lib.hid hrel'
            have t1 : ((n : Int) + ((m : Int) - n)) = m := by omega
            have t2 : ((n : Int) + ((m : Int) - n + 1)) = ↑(m + 1) := by omega
            have t3 : decide ((m : Int) - n < 0) = false := by simp; omega
            clear hrel' h3 hk3 hs3 e1 e2 e3 e4 hu
            go_wp2_with fail
            go_roundw
            case rel => exact HR.out
            case measure => simp [intOf]; omega
      · obtain rfl : k = 80 := by omega
        have hl80 : (80 : Int) < len := by omega
        clear hlt h100 hk1 hk2 hrows'
        go_wp2_with fail
        refine (linkAwake _).mono ?_
        rintro e w9 ⟨rfl, hb9⟩
        go_wp2_with fail
        go_ret
        exact ⟨rfl, hb1.trans (((LinksAt.own hL).below' hb9).below.mono hb1.size)⟩
    · obtain rfl : k = len := by omega
      go_wp2_with fail
      refine (linkAwake _).mono ?_
      rintro e w9 ⟨rfl, hb9⟩
      go_wp2_with fail
      go_ret
      exact ⟨rfl, hb1.trans (((LinksAt.own hL).below' hb9).below.mono hb1.size)⟩

theorem linkPumps_walk (sz : Int) (A : Option Addr) (len cap : Nat) (w : World) (wf : (Lit.int .u8 sz).wf = true) (hrows : RowsIn w A len cap LAct.kinds) :
    Calls Try.prog 15 #[.int .u8 sz, .slice A len cap] w fun e w' => e = .returned (.bool true) ∧ Below w.heap.size w w' := by
  have h0 : 0 ≤ sz ∧ sz < 256 := by simp [Lit.wf, IntKind.min, IntKind.max, IntKind.signed, IntKind.bits] at wf; omega
  obtain ⟨k, rfl⟩ : ∃ k : Nat, sz = k := ⟨sz.toNat, by omega⟩
  exact linkPumps_nat k (by omega) A len cap w hrows
end Go.Proofs.Ytniiefcbiapieaa
