/- Links: contracts over named objects. -/
import Derived.Test.YtniiefcbiapieaaMap
import Derived.Test.YtniiefcbiapieaaRefCel2
import Derived.Test.YtniiefcbiapieaaPum
import Derived.Deep.RegionWith
namespace Go.Proofs.Ytniiefcbiapieaa
open Go.RowKit Go.ChangeMaps

/-- A map's block is written. -/
theorem Own.block {w0 w : World} {γ : Nat → Option (Nat × Obj)} (h : Own w0 w γ) {t g clock : Nat} {es : Array MapEntry} (hg : γ t = some (g, .map es clock)) (o : Obj) :
    Own w0 (setBlock w g o) (put γ t g o) := by
  have hb := (h.own t g _ hg).1
  have hh := (h.own t g _ hg).2
  refine ⟨?_, fun k g' o' hk => ?_, fun k k' g' o1 o2 h1 h2 => ?_⟩
  · exact h.below.trans ⟨rfl, rfl, rfl, by simp [setBlock], fun k hk => heap_setBlock_other hh o (by omega)⟩
  · by_cases e : k = t
    · subst e
      rw [put_same] at hk
      cases hk
      exact ⟨hb, heap_setBlock_same hh _⟩
    · rw [put_other _ _ _ e] at hk
      have hne : g' ≠ g := fun e2 => by subst e2; exact e (h.inj _ _ _ _ _ hk hg)
      exact ⟨(h.own k g' o' hk).1, (heap_setBlock_other hh _ hne).trans (h.own k g' o' hk).2⟩
  · by_cases e : k = t
    · by_cases e' : k' = t
      · rw [e, e']
      · subst e
        rw [put_same] at h1
        rw [put_other _ _ _ e'] at h2
        cases h1
        exact (h.inj _ _ _ _ _ h2 hg).symm
    · by_cases e' : k' = t
      · subst e'
        rw [put_same] at h2
        rw [put_other _ _ _ e] at h1
        cases h2
        exact h.inj _ _ _ _ _ h1 hg
      · rw [put_other _ _ _ e] at h1
        rw [put_other _ _ _ e'] at h2
        exact h.inj k k' g' o1 o2 h1 h2

section
variable {w0 w : World} {γ : Nat → Option (Nat × Obj)} {gl gm clock : Nat} {lv ev : Value} {es : Array MapEntry} {f : Int → Int → Option (Int × Int)}

def forgot (w0 : World) (γ : Nat → Option (Nat × Obj)) (gm clock : Nat) (f : Int → Int → Option (Int × Int)) (e : Ending) (w' : World) : Prop :=
  e = .returned (.tuple #[]) ∧ ∃ es', Own w0 w' (put γ 51 gm (.map es' clock)) ∧ MapFn es'.toList f

theorem forget_any (hs : Own w0 w γ) (hl : γ 50 = some (gl, .cells #[lv, ev, .map (some gm)] 108 (0, 0))) (hm : γ 51 = some (gm, .map es clock)) (hf : MapFn es.toList f) {d t : Int} (h1 : Fits d) (h2 : Fits t) :
    Calls Try.prog 45 #[.pointer (some ⟨gl, 0, none⟩), .int .i64 d, .int .i64 t] w (forgot w0 γ gm clock (fnDel f d t)) := by
  have c2 : w.cell? ⟨gl, 2, none⟩ = some (.map (some gm)) := hs.cell hl (i := 2) rfl
  have hrun := fun ty => run_delete105 (hs.own _ _ _ hm).2 hf h1 h2 ty
  obtain ⟨es', hr, hf'⟩ := hrun 0
  have hfin : forgot w0 γ gm clock (fnDel f d t) (.returned (.tuple #[])) (setBlock w gm (.map es' clock)) := ⟨rfl, es', hs.block hm _, hf'⟩
  unfold whoV at hr
  clear hrun hf' hf hs hl hm h1 h2
  go_enter Try.func45, Try.ntmps45
  go_wp2_with fail
  go_end0
  exact hfin

theorem forget_nil (d t : Int) (w : World) : Calls Try.prog 45 #[.pointer none, .int .i64 d, .int .i64 t] w fun e w' => e = .returned (.tuple #[]) ∧ w = w' := by
  go_enter Try.func45, Try.ntmps45
  go_wp2_with fail
  go_end0
  exact ⟨rfl, rfl⟩
end

def upB (op : Int) : Bool := op == 27 || op == 28 || op == 29 || op == 33
theorem up_any (op : Int) (w : World) : Calls Try.prog 64 #[.int .i64 op] w fun e w' => e = .returned (.bool (upB op)) ∧ w = w' := by
  by_cases h1 : op = 27
  · subst h1
    go_enter Try.func64, Try.ntmps64
    go_wp2_with fail
    go_ret
    exact ⟨rfl, rfl⟩
  · have b1 : (op == 27) = false := by simpa using h1
    by_cases h2 : op = 28
    · subst h2
      go_enter Try.func64, Try.ntmps64
      go_wp2_with fail
      go_ret
      exact ⟨rfl, rfl⟩
    · have b2 : (op == 28) = false := by simpa using h2
      by_cases h3 : op = 29
      · subst h3
        go_enter Try.func64, Try.ntmps64
        go_wp2_with fail
        go_ret
        exact ⟨rfl, rfl⟩
      · have b3 : (op == 29) = false := by simpa using h3
        have e : upB op = (op == 33) := by simp [upB, b1, b2, b3]
        rw [e]
        clear e h1 h2 h3
        go_enter Try.func64, Try.ntmps64
        go_wp2_with fail
        go_ret
        exact ⟨rfl, rfl⟩

def rec3 (v l e : Int) : Ending := .returned (.tuple #[.int .i64 e, .int .i64 v, .int .i64 l])

theorem linkRecv_any {w0 w : World} {γ : Nat → Option (Nat × Obj)} (hs : Own w0 w γ) {tt tp g gp s : Nat} {all : List Int} {next : Int} (hne : tt ≠ tp) (ht : γ tt = some (g, .cells #[.pointer (some ⟨gp, 0, none⟩), .int .i64 next] 111 (0, 0))) (hp : γ tp = some (gp, pumpO s all))
    (h1 : 1 ≤ s) (h8 : s ≤ 8) (hlen : all.length < 1000000) (l : Value) :
    Calls Try.prog 59 #[l, .pointer (some ⟨g, 0, none⟩)] w fun e w' => e = rec3 (recvV s all next) (recvL s all next) (recvE all next) ∧
      Own w0 w' (put γ tt g (.cells #[.pointer (some ⟨gp, 0, none⟩), .int .i64 (recvA s all next)] 111 (0, 0))) := by
  have c0 : w.cell? ⟨g, 0, none⟩ = some (.pointer (some ⟨gp, 0, none⟩)) := hs.cell ht (i := 0) rfl
  have c1 : w.cell? ⟨g, 1, none⟩ = some (.int .i64 next) := hs.cell ht (i := 1) rfl
  have hrd := recv_any hs.drew hp h1 h8 hlen (next := next)
  rw [rec4_eq] at hrd
  unfold rec3
  generalize recvV s all next = x1 at *
  generalize recvL s all next = x2 at *
  generalize recvA s all next = x3 at *
  generalize recvE all next = x4 at *
  have hfin : ∀ w', Own w0 w' γ → Own w0 (w'.setCell ⟨g, 1, none⟩ (.int .i64 x3)) (put γ tt g (.cells #[.pointer (some ⟨gp, 0, none⟩), .int .i64 x3] 111 (0, 0))) := fun w' ho => ho.set ht 1 (.int .i64 x3)
  go_enter Try.func59, Try.ntmps59
  go_wp2_with fail
  go_region_with
    (first | (go_at_call 22; refine hrd.mono ?_; rintro e w1 ⟨rfl, ho⟩
              have f1 := ho.free ht 1
              have d1 : w1.cell? ⟨g, 1, none⟩ = some (.int .i64 next) := ho.cell ht (i := 1) rfl
              have hf := hfin _ ho))
  all_goals go_wp2_with fail
  all_goals (try simp only [Exit.inBlock, Exit.then])
  all_goals refine bodyPost_ret (results_tmp3 rfl _ _ _) rfl ?_
  all_goals exact ⟨rfl, hf⟩

/-- An entry. -/
def entC (k dm pk op a b c : Int) : Array Value := #[.int .i64 k, .int .i64 dm, .int .i64 pk, .int .i64 op, .int .i64 a, .int .i64 b, .int .i64 c]

def CS.wE (c : CS) (op t i : Int) : Int := if op = 27 then c.beginE t else if op = 28 then c.putE t i else c.endE t
def CS.wS (c : CS) (op t i v : Int) : CS := if op = 27 then c.begin t else if op = 28 then c.put t i v else c.end_ t

set_option maxHeartbeats 1000000 in
theorem linkWrite_any {w0 w : World} {γ : Nat → Option (Nat × Obj)} (hs : Own w0 w γ) {tg g : Nat} {c : CS} (hg : γ tg = some (g, cellO c)) (hc : c.Ok) (l : Value) (t k dm pk op a b v : Int) :
    Calls Try.prog 61 #[l, .int .i64 t, .agg #[.int .i64 k, .int .i64 dm, .int .i64 pk, .int .i64 op, .int .i64 a, .int .i64 b, .int .i64 v], .pointer (some ⟨g, 0, none⟩)] w fun e w' => e = ans (c.wE op t b) ∧ Own w0 w' (put γ tg g (cellO (c.wS op t b v))) := by
  have hs' := hs.below' ((Below.refl w.heap.size w).alloc (Nat.le_refl _) (Obj.cells #[.int .i64 k, .int .i64 dm, .int .i64 pk, .int .i64 op, .int .i64 a, .int .i64 b, .int .i64 v] 74))
  by_cases h1 : op = 27
  · subst h1
    rw [show c.wE 27 t b = c.beginE t from if_pos rfl, show c.wS 27 t b v = c.begin t from if_pos rfl]
    have hb := cellBegin_any hs' hg hc t
    clear hs hs'
    go_enter Try.func61, Try.ntmps61
    go_wp2_with fail
    refine hb.mono ?_
    rintro e w1 ⟨rfl, ho⟩
    rw [ans_eq]
    clear hb
    go_wp2_with fail
    go_ret
    exact ⟨rfl, ho⟩
  · have b1 : (op == 27) = false := by simpa using h1
    by_cases h2 : op = 28
    · subst h2
      rw [show c.wE 28 t b = c.putE t b from rfl, show c.wS 28 t b v = c.put t b v from rfl]
      have hb := cellPut_any hs' hg hc t b v
      clear hs hs'
      go_enter Try.func61, Try.ntmps61
      go_wp2_with fail
      refine hb.mono ?_
      rintro e w1 ⟨rfl, ho⟩
      rw [ans_eq]
      clear hb
      go_wp2_with fail
      go_ret
      exact ⟨rfl, ho⟩
    · have b2 : (op == 28) = false := by simpa using h2
      rw [show c.wE op t b = c.endE t by unfold CS.wE; rw [if_neg h1, if_neg h2], show c.wS op t b v = c.end_ t by unfold CS.wS; rw [if_neg h1, if_neg h2]]
      have hb := cellEnd_any hs' hg hc t
      clear hs hs' h1 h2
      go_enter Try.func61, Try.ntmps61
      go_wp2_with fail
      refine hb.mono ?_
      rintro e w1 ⟨rfl, ho⟩
      rw [ans_eq]
      clear hb
      go_wp2_with fail
      go_ret
      exact ⟨rfl, ho⟩
end Go.Proofs.Ytniiefcbiapieaa
