/- One cell behind a link, written from below and read from above: what holds whatever is done. -/
import Derived.Test.YtniiefcbiapieaaQRel
namespace Go.Proofs.Ytniiefcbiapieaa
open Go.RowKit Go.ChangeMaps

def whLs (z : Int) : List LinkS := [⟨1, 0, 1, z⟩]
def whS (z : Int) (en : Nat → EndS) (f : Int → Int → Option (Int × Int)) : LS := ⟨whLs z, en, f⟩

/-- All that the law keeps. -/
structure Wh where
  c : CS
  f : Int → Int → Option (Int × Int)
  now : List Int
  told : List Int
  want : List Int
  got : List Int
  has : List Bool
  rd : Bool

structure Wh.Inv (s : Wh) (n : Nat) : Prop where
  ok : s.c.Ok
  cs : s.c.s = n
  now : s.now = s.c.ws.take n
  told : s.c.t = 0 → s.told = s.now
  ln : s.told.length = n ∧ s.want.length = n ∧ s.got.length = n ∧ s.has.length = n
  rd : s.rd = (s.f 1 9).isSome
  seq : ∀ l q, s.f 1 9 = some (l, q) → l = 0 ∧ q ≤ s.c.q ∧ (q = s.c.q → s.c.t = 0 ∧ s.want = s.told ∧ ∀ k, k < n → s.has.getD k false = true → s.got.getD k 0 = s.want.getD k 0)

/-- The writer's act: what it is told, and what is then. -/
def Wh.wE (s : Wh) (op b : Int) : Int := if 27 ≤ op ∧ op ≤ 29 then s.c.wE op 1 b else if op < 27 ∨ 34 < op then 1 else if op ≤ 32 then 10 else 8
def Wh.wr (s : Wh) (op b v : Int) : Wh :=
  if op = 27 then { s with c := s.c.begin 1 }
  else if op = 28 then { s with c := s.c.put 1 b v, now := if s.c.putE 1 b = 0 then s.now.set b.toNat v else s.now }
  else if op = 29 then { s with c := s.c.end_ 1, told := if s.c.endE 1 = 0 then s.now else s.told }
  else s
/-- The reader's. -/
def Wh.rE (s : Wh) (op b : Int) : Int := if 30 ≤ op ∧ op ≤ 32 then (rdR s.c s.f 1 9 op 0 b).1 else if op < 27 ∨ 34 < op then 1 else if op ≤ 29 then 10 else 8
def Wh.rN (s : Wh) (op b : Int) : Int := if 30 ≤ op ∧ op ≤ 32 then (rdR s.c s.f 1 9 op 0 b).2.1 else 0
def Wh.rF (s : Wh) (op b : Int) : Int → Int → Option (Int × Int) := if 30 ≤ op ∧ op ≤ 32 then (rdR s.c s.f 1 9 op 0 b).2.2 else s.f

theorem wh_may_w (z op : Int) (h1 : 27 ≤ op) (h2 : op ≤ 34) : mayE (whLs z) 0 op 0 = if op ≤ 29 then 0 else if op ≤ 32 then 10 else 8 := by
  have : op = 27 ∨ op = 28 ∨ op = 29 ∨ op = 30 ∨ op = 31 ∨ op = 32 ∨ op = 33 ∨ op = 34 := by omega
  rcases this with h | h | h | h | h | h | h | h <;> subst h <;> rfl
theorem wh_may_r (z op : Int) (h1 : 27 ≤ op) (h2 : op ≤ 34) : mayE (whLs z) 1 op 0 = if op ≤ 29 then 10 else if op ≤ 32 then 0 else 8 := by
  have : op = 27 ∨ op = 28 ∨ op = 29 ∨ op = 30 ∨ op = 31 ∨ op = 32 ∨ op = 33 ∨ op = 34 := by omega
  rcases this with h | h | h | h | h | h | h | h <;> subst h <;> rfl

/-- What Do comes to on one link, part by part. -/
theorem doR_out {s : LS} {d t op a b v : Int} (h : op < 27 ∨ 34 < op) : doR s d t op a b v = (1, 0, 0, s) := if_pos h
theorem doR_no {s : LS} {d t op a b v x : Int} (h : ¬ (op < 27 ∨ 34 < op)) (hm : mayE s.ls d op a = x) (hx : x ≠ 0) : doR s d t op a b v = (x, 0, 0, s) := by
  unfold doR
  rw [if_neg h, if_pos (by rw [hm]; exact hx), hm]
theorem doR_cell {s : LS} {d t op a b v : Int} {c : CS} (h : ¬ (op < 27 ∨ 34 < op)) (hm : mayE s.ls d op a = 0) (hc : s.en a.toNat = .cell c) :
    doR s d t op a b v = if 30 ≤ op then ((rdR c s.f d t op a b).1, (rdR c s.f d t op a b).2.1, 0, { s with f := (rdR c s.f d t op a b).2.2 }) else (c.wE op t b, 0, 0, { s with en := updE s.en a.toNat (.cell (c.wS op t b v)) }) := by
  unfold doR
  rw [if_neg h, if_neg (by rw [hm]; decide), hc]

theorem Wh.wr_c (s : Wh) (op b v : Int) (h1 : 27 ≤ op) (h2 : op ≤ 29) : (s.wr op b v).c = s.c.wS op 1 b v := by
  unfold CS.wS Wh.wr
  by_cases h27 : op = 27
  · rw [if_pos h27, if_pos h27]
  · rw [if_neg h27, if_neg h27]
    by_cases h28 : op = 28
    · rw [if_pos h28, if_pos h28]
    · rw [if_neg h28, if_neg h28, if_pos (by omega)]
theorem Wh.wr_f (s : Wh) (op b v : Int) : (s.wr op b v).f = s.f := by
  unfold Wh.wr
  split
  · rfl
  · split
    · rfl
    · split <;> rfl
theorem Wh.wr_other (s : Wh) (op b v : Int) (h : op < 27 ∨ 29 < op) : s.wr op b v = s := by
  unfold Wh.wr
  rw [if_neg (by omega), if_neg (by omega), if_neg (by omega)]

theorem wh_do_w (z : Int) (en : Nat → EndS) (s : Wh) (h : en 0 = .cell s.c) (op b v : Int) :
    ∃ en', doR (whS z en s.f) 0 1 op 0 b v = (s.wE op b, 0, 0, whS z en' s.f) ∧ en' 0 = .cell (s.wr op b v).c := by
  by_cases hr : op < 27 ∨ 34 < op
  · refine ⟨en, ?_, ?_⟩
    · rw [doR_out hr]
      unfold Wh.wE
      rw [if_neg (by omega), if_pos hr]
    · rw [s.wr_other op b v (by omega)]; exact h
  · have hm : mayE (whS z en s.f).ls 0 op 0 = if op ≤ 29 then 0 else if op ≤ 32 then 10 else 8 := wh_may_w z op (by omega) (by omega)
    by_cases h29 : op ≤ 29
    · rw [if_pos h29] at hm
      refine ⟨updE en 0 (.cell (s.c.wS op 1 b v)), ?_, ?_⟩
      · rw [doR_cell hr hm h, if_neg (by omega)]
        unfold Wh.wE
        rw [if_pos ⟨by omega, h29⟩]
        rfl
      · rw [s.wr_c op b v (by omega) h29]; exact if_pos rfl
    · rw [if_neg h29] at hm
      refine ⟨en, ?_, by rw [s.wr_other op b v (by omega)]; exact h⟩
      unfold Wh.wE
      rw [if_neg (by omega), if_neg hr]
      by_cases h32 : op ≤ 32
      · rw [if_pos h32] at hm ⊢
        exact doR_no hr hm (by decide)
      · rw [if_neg h32] at hm ⊢
        exact doR_no hr hm (by decide)

theorem wh_do_r (z : Int) (en : Nat → EndS) (s : Wh) (h : en 0 = .cell s.c) (op b v : Int) :
    doR (whS z en s.f) 1 9 op 0 b v = (s.rE op b, s.rN op b, 0, whS z en (s.rF op b)) := by
  unfold Wh.rE Wh.rN Wh.rF
  by_cases hr : op < 27 ∨ 34 < op
  · rw [doR_out hr, if_neg (by omega), if_pos hr, if_neg (by omega), if_neg (by omega)]
  · have hm : mayE (whS z en s.f).ls 1 op 0 = if op ≤ 29 then 10 else if op ≤ 32 then 0 else 8 := wh_may_r z op (by omega) (by omega)
    by_cases h29 : op ≤ 29
    · rw [if_pos h29] at hm
      rw [doR_no hr hm (by decide), if_neg (by omega), if_neg hr, if_pos h29, if_neg (by omega), if_neg (by omega)]
    · rw [if_neg h29] at hm
      by_cases h32 : op ≤ 32
      · rw [if_pos h32] at hm
        have h3 : 30 ≤ op ∧ op ≤ 32 := by omega
        rw [doR_cell hr hm h, if_pos h3.1, if_pos h3, if_pos h3, if_pos h3]
        rfl
      · rw [if_neg h32] at hm
        rw [doR_no hr hm (by decide), if_neg (by omega), if_neg hr, if_neg h29, if_neg (by omega), if_neg (by omega)]

/-! What holds is kept. -/
theorem CS.beginE_one (c : CS) : c.beginE 1 = if c.t = 1 then 11 else if c.t ≠ 0 then 12 else 0 := by unfold CS.beginE; rw [if_neg (by decide)]

theorem Wh.Inv.wr {s : Wh} {n : Nat} (h : s.Inv n) (hq : s.c.q < 999) (op b v : Int) : (s.wr op b v).Inv n := by
  obtain ⟨hok, hcs, hnow, htold, hln, hrd, hseq⟩ := h
  unfold Wh.wr
  by_cases h27 : op = 27
  · rw [if_pos h27]
    unfold CS.begin
    by_cases he : s.c.beginE 1 = 0
    · rw [if_pos he]
      refine ⟨by have := hok.begin 1 hq; unfold CS.begin at this; rwa [if_pos he] at this, hcs, hnow, fun h => by simp at h, hln, hrd, fun l q hf => ?_⟩
      obtain ⟨a, b', c⟩ := hseq l q hf
      exact ⟨a, by simp only; omega, fun e => by simp only at e; omega⟩
    · rw [if_neg he]; exact ⟨hok, hcs, hnow, htold, hln, hrd, hseq⟩
  · rw [if_neg h27]
    by_cases h28 : op = 28
    · rw [if_pos h28]
      unfold CS.put
      by_cases he : s.c.putE 1 b = 0
      · rw [if_pos he, if_pos he]
        have ht1 : s.c.t = 1 := by
          unfold CS.putE at he
          split at he
          · cases he
          · split at he
            · cases he
            · rename_i h; simpa using h
        refine ⟨by have := hok.put 1 b v; unfold CS.put at this; rwa [if_pos he] at this, hcs, ?_, fun h => by simp only at h; omega, hln, hrd, fun l q hf => ?_⟩
        · show s.now.set b.toNat v = (s.c.ws.set b.toNat v).take n
          rw [hnow, List.take_set]
        · obtain ⟨a, b', c⟩ := hseq l q hf
          exact ⟨a, b', fun e => by have := (c e).1; omega⟩
      · rw [if_neg he, if_neg he]; exact ⟨hok, hcs, hnow, htold, hln, hrd, hseq⟩
    · rw [if_neg h28]
      by_cases h29 : op = 29
      · rw [if_pos h29]
        unfold CS.end_
        by_cases he : s.c.endE 1 = 0
        · rw [if_pos he, if_pos he]
          refine ⟨by have := hok.end_ 1 hq; unfold CS.end_ at this; rwa [if_pos he] at this, hcs, hnow, fun _ => rfl, ⟨?_, hln.2⟩, hrd, fun l q hf => ?_⟩
          · show s.now.length = n
            rw [hnow, List.length_take, hok.len]
            have := hok.hi
            have h2 : s.c.s = n := hcs
            omega
          · obtain ⟨a, b', c⟩ := hseq l q hf
            exact ⟨a, by simp only; omega, fun e => by simp only at e; omega⟩
        · rw [if_neg he, if_neg he]; exact ⟨hok, hcs, hnow, htold, hln, hrd, hseq⟩
      · rw [if_neg h29]; exact ⟨hok, hcs, hnow, htold, hln, hrd, hseq⟩

/-- What the law does behind the reader's act. -/
def Wh.read (s : Wh) (op b : Int) : Wh :=
  if op = 30 then { s with f := s.rF op b, rd := decide (s.rE op b = 0), want := s.told, has := List.replicate s.has.length false }
  else if op = 31 then (if s.rE op b = 0 ∧ 0 ≤ b ∧ b < s.c.s then { s with got := s.got.set b.toNat (s.rN op b), has := s.has.set b.toNat true } else s)
  else if op = 32 then { s with f := s.rF op b, rd := false }
  else s

theorem Wh.rE_in {s : Wh} {op b : Int} (h : 30 ≤ op ∧ op ≤ 32) : s.rE op b = (rdR s.c s.f 1 9 op 0 b).1 ∧ s.rN op b = (rdR s.c s.f 1 9 op 0 b).2.1 ∧ s.rF op b = (rdR s.c s.f 1 9 op 0 b).2.2 := ⟨if_pos h, if_pos h, if_pos h⟩

theorem Wh.begin_eq (s : Wh) (b : Int) : (s.c.t = 0 ∧ s.rE 30 b = 0 ∧ s.rN 30 b = s.c.q ∧ s.rF 30 b = fnPut (fnDel s.f 1 9) 1 9 0 s.c.q) ∨ (s.c.t ≠ 0 ∧ s.rE 30 b = 17 ∧ s.rF 30 b = fnDel s.f 1 9) := by
  obtain ⟨e1, e2, e3⟩ := s.rE_in (op := 30) (b := b) (by decide)
  rw [e1, e2, e3]
  unfold rdR
  rw [if_pos rfl]
  by_cases ht : s.c.t = 0
  · rw [if_pos ht]; exact .inl ⟨ht, rfl, rfl, rfl⟩
  · rw [if_neg ht]; exact .inr ⟨ht, rfl, rfl⟩

theorem Wh.Inv.at_ {s : Wh} {n : Nat} (h : s.Inv n) : (s.rd = false ∧ s.f 1 9 = none) ∨ (s.rd = true ∧ ∃ q, s.f 1 9 = some (0, q) ∧ q ≤ s.c.q ∧ (q = s.c.q → s.c.t = 0 ∧ s.want = s.told ∧ ∀ k, k < n → s.has.getD k false = true → s.got.getD k 0 = s.want.getD k 0)) := by
  cases hf : s.f 1 9 with
  | none => left; rw [h.rd, hf]; exact ⟨rfl, rfl⟩
  | some x =>
    right
    obtain ⟨l, q⟩ := x
    obtain ⟨rfl, a, b⟩ := h.seq l q hf
    refine ⟨by rw [h.rd, hf]; rfl, q, rfl, a, b⟩

/-- A word that was read. -/
theorem Wh.Inv.word {s : Wh} {n : Nat} (h : s.Inv n) {b : Int} (he : s.rE 31 b = 0) : s.rd = true ∧ 0 ≤ b ∧ b < n ∧ s.rN 31 b = s.c.ws.getD b.toNat 0 := by
  obtain ⟨e1, e2, e3⟩ := s.rE_in (op := 31) (b := b) (by decide)
  rw [e1] at he
  rw [e2]
  have hcs := h.cs
  rcases h.at_ with ⟨_, hf⟩ | ⟨hr, q, hf, _⟩
  · unfold rdR at he
    rw [if_neg (by decide), hf] at he
    cases he
  · unfold rdR at he ⊢
    rw [if_neg (by decide), hf] at he ⊢
    dsimp only at he ⊢
    rw [if_neg (by simp), if_pos rfl] at he ⊢
    dsimp only at he ⊢
    unfold CS.wordE at he
    split at he
    · cases he
    · refine ⟨hr, by omega, by omega, ?_⟩
      unfold CS.wordN
      rw [if_neg (by omega)]

/-- The end of a read. -/
theorem Wh.Inv.fin {s : Wh} {n : Nat} (h : s.Inv n) (b : Int) : (s.rd = false ∧ s.rE 32 b = 11) ∨ (s.rd = true ∧ s.rE 32 b ≠ 11 ∧ (s.rE 32 b = 0 → ∀ k, k < n → s.has.getD k false = true → s.got.getD k 0 = s.want.getD k 0)) := by
  obtain ⟨e1, _, _⟩ := s.rE_in (op := 32) (b := b) (by decide)
  rw [e1]
  rcases h.at_ with ⟨hr, hf⟩ | ⟨hr, q, hf, hq, hall⟩
  · left
    refine ⟨hr, ?_⟩
    unfold rdR
    rw [if_neg (by decide), hf]
  · right
    unfold rdR
    rw [if_neg (by decide), hf]
    dsimp only
    rw [if_neg (by simp), if_neg (by decide)]
    dsimp only
    unfold CS.sameE
    by_cases hs : (s.c.q : Int) ≠ q ∨ s.c.t ≠ 0
    · rw [if_pos hs]; exact ⟨hr, by decide, fun h => by cases h⟩
    · rw [if_neg hs]
      exact ⟨hr, by decide, fun _ => (hall (by omega)).2.2⟩

theorem fnDel_at (f : Int → Int → Option (Int × Int)) (d t : Int) : fnDel f d t d t = none := by simp [fnDel]
theorem fnPut_at (f : Int → Int → Option (Int × Int)) (d t l s : Int) : fnPut f d t l s d t = some (l, s) := by simp [fnPut]

theorem Wh.Inv.read {s : Wh} {n : Nat} (h : s.Inv n) (op b : Int) : (s.read op b).Inv n := by
  unfold Wh.read
  by_cases h30 : op = 30
  · subst h30
    rw [if_pos rfl]
    rcases s.begin_eq b with ⟨ht, he, _, hf⟩ | ⟨ht, he, hf⟩
    · rw [he, hf]
      refine ⟨h.ok, h.cs, h.now, h.told, ⟨h.ln.1, h.ln.1, h.ln.2.2.1, by simp [h.ln.2.2.2]⟩, ?_, fun l q hq => ?_⟩
      · show decide ((0 : Int) = 0) = (fnPut (fnDel s.f 1 9) 1 9 0 s.c.q 1 9).isSome
        rw [fnPut_at]; rfl
      · replace hq : fnPut (fnDel s.f 1 9) 1 9 0 s.c.q 1 9 = some (l, q) := hq
        rw [fnPut_at] at hq
        cases hq
        refine ⟨rfl, Int.le_refl _, fun _ => ⟨ht, rfl, fun k hk hh => ?_⟩⟩
        exfalso
        have hx : (List.replicate s.has.length false).getD k false = false := by
          rw [List.getD_eq_getElem?_getD, List.getElem?_replicate]
          split <;> rfl
        rw [show ({ s with f := fnPut (fnDel s.f 1 9) 1 9 0 ↑s.c.q, rd := decide ((0 : Int) = 0), want := s.told, has := List.replicate s.has.length false } : Wh).has = List.replicate s.has.length false from rfl, hx] at hh
        cases hh
    · rw [he, hf]
      refine ⟨h.ok, h.cs, h.now, h.told, ⟨h.ln.1, h.ln.1, h.ln.2.2.1, by simp [h.ln.2.2.2]⟩, ?_, fun l q hq => ?_⟩
      · show decide ((17 : Int) = 0) = (fnDel s.f 1 9 1 9).isSome
        rw [fnDel_at]; rfl
      · replace hq : fnDel s.f 1 9 1 9 = some (l, q) := hq
        rw [fnDel_at] at hq
        cases hq
  · rw [if_neg h30]
    by_cases h31 : op = 31
    · subst h31
      rw [if_pos rfl]
      by_cases hc : s.rE 31 b = 0 ∧ 0 ≤ b ∧ b < s.c.s
      · rw [if_pos hc]
        obtain ⟨hrd, h0, hn, hN⟩ := h.word hc.1
        refine ⟨h.ok, h.cs, h.now, h.told, ⟨h.ln.1, h.ln.2.1, by simp [h.ln.2.2.1], by simp [h.ln.2.2.2]⟩, h.rd, fun l q hq => ?_⟩
        obtain ⟨a, b', c⟩ := h.seq l q hq
        refine ⟨a, b', fun e => ?_⟩
        obtain ⟨ht, hw, hall⟩ := c e
        refine ⟨ht, hw, fun k hk hh => ?_⟩
        show (s.got.set b.toNat (s.rN 31 b)).getD k 0 = s.want.getD k 0
        by_cases hkb : k = b.toNat
        · subst hkb
          have hg : b.toNat < s.got.length := by rw [h.ln.2.2.1]; omega
          rw [List.getD_eq_getElem?_getD, List.getElem?_set_self hg, Option.getD_some, hN, hw, h.told ht, h.now]
          rw [List.getD_eq_getElem?_getD, List.getD_eq_getElem?_getD, List.getElem?_take, if_pos (by omega)]
        · have hne : ∀ (α : Type) (l : List α) (x : α) (d : α), (l.set b.toNat x).getD k d = l.getD k d := fun α l x d => by
            rw [List.getD_eq_getElem?_getD, List.getElem?_set_ne (by omega), List.getD_eq_getElem?_getD]
          rw [hne]
          refine hall k hk ?_
          have : (s.has.set b.toNat true).getD k false = true := hh
          rwa [hne] at this
      · rw [if_neg hc]; exact h
    · rw [if_neg h31]
      by_cases h32 : op = 32
      · subst h32
        rw [if_pos rfl]
        have hnone : s.rF 32 b 1 9 = none := by
          obtain ⟨_, _, e3⟩ := s.rE_in (op := 32) (b := b) (by decide)
          rw [e3]
          unfold rdR
          rw [if_neg (by decide)]
          rcases h.at_ with ⟨_, hf⟩ | ⟨_, q, hf, _⟩
          · rw [hf]; exact hf
          · rw [hf]
            dsimp only
            rw [if_neg (by simp), if_neg (by decide)]
            exact fnDel_at s.f 1 9
        refine ⟨h.ok, h.cs, h.now, h.told, h.ln, ?_, fun l q hq => ?_⟩
        · show false = (s.rF 32 b 1 9).isSome
          rw [hnone]; rfl
        · have : s.rF 32 b 1 9 = some (l, q) := hq
          rw [hnone] at this
          cases this
      · rw [if_neg h32]; exact h
theorem Wh.rF_other {s : Wh} {op b : Int} (h : op ≠ 30) (h2 : op ≠ 32) : s.rF op b = s.f := by
  unfold Wh.rF
  by_cases h3 : 30 ≤ op ∧ op ≤ 32
  · rw [if_pos h3]
    have : op = 31 := by omega
    subst this
    unfold rdR
    rw [if_neg (by decide)]
    split
    · rfl
    · split
      · rfl
      · rw [if_pos rfl]
  · rw [if_neg h3]
theorem Wh.read_f (s : Wh) (op b : Int) : (s.read op b).f = s.rF op b := by
  unfold Wh.read
  by_cases h30 : op = 30
  · rw [if_pos h30]
  · rw [if_neg h30]
    by_cases h31 : op = 31
    · rw [if_pos h31, s.rF_other h30 (by omega)]
      split <;> rfl
    · rw [if_neg h31]
      by_cases h32 : op = 32
      · rw [if_pos h32]
      · rw [if_neg h32, s.rF_other h30 h32]
theorem Wh.read_c (s : Wh) (op b : Int) : (s.read op b).c = s.c := by
  unfold Wh.read
  split
  · rfl
  · split
    · split <;> rfl
    · split <;> rfl
theorem Wh.wr_q (s : Wh) (op b v : Int) : (s.wr op b v).c.q ≤ s.c.q + 1 := by
  by_cases h : 27 ≤ op ∧ op ≤ 29
  · rw [s.wr_c op b v h.1 h.2]; exact s.c.wS_q op 1 b v
  · rw [s.wr_other op b v (by omega)]; omega
end Go.Proofs.Ytniiefcbiapieaa
