/- The map of who reads what: its object, as a function. -/
import Derived.Test.YtniiefcbiapieaaSlc
import Derived.Test.YtniiefcbiapieaaProg
import Derived.DeepKeys4
import Derived.Maps.OwnSet
import Derived.KernelRfl
namespace Go.Proofs.Ytniiefcbiapieaa
open Go.RowKit Go.WideMaps Go.ChangeMaps

theorem laid : laidOutB Try.prog = true := by kernel_rfl
theorem law117 : KeyLaw Try.prog 117 := deep_law_laid laid (m := 2) (by omega) (of_decide_eq_true (by kernel_rfl)) (by kernel_rfl) (by kernel_rfl)

def whoV (d t : Int) : Value := .agg #[.int .i64 d, .int .i64 t]
def readV (l s : Int) : Value := .agg #[.int .i64 l, .int .i64 s]
def Fits (x : Int) : Prop := (Lit.int .i64 x).wf = true

theorem whoV_inj {a b c d : Int} (h : whoV a b = whoV c d) : a = c ∧ b = d := by simpa [whoV] using h

theorem cells117 : Try.prog.cellsOf 117 = 2 := by kernel_rfl
theorem cells3 : Try.prog.cellsOf 3 = 1 := by kernel_rfl
theorem sized : ∃ m, Try.prog.types.size = m + 1 := ⟨Try.prog.types.size - 1, by have : 0 < Try.prog.types.size := of_decide_eq_true (by kernel_rfl); omega⟩
theorem keyType117 : Try.prog.keyType 117 = true := by kernel_rfl

theorem key117 {d t : Int} (h1 : Fits d) (h2 : Fits t) : ∃ l, keyOf Try.prog 117 (whoV d t) = some l := by
  have h3 : ∀ m, Try.prog.keyLits (m + 2) 117 [.int .i64 d, .int .i64 t] = some [.int .i64 d, .int .i64 t] := by
    intro m
    unfold Fits at h1 h2
    simp [Program.keyLits, Try.underlying117, Try.underlying3, cells117, cells3, h1, h2]
  have h4 : (whoV d t).formed Try.prog 117 = true := by simp [whoV, Value.formed, Try.underlying117, cells117]
  obtain ⟨m, hm⟩ := sized
  refine ⟨.string (keyBytes [.int .i64 d, .int .i64 t]), ?_⟩
  simp [keyOf, Try.underlying117, keyType117, h4, hm]
  exact ⟨_, by simpa [whoV, Value.cells] using h3 m, rfl⟩

/-- The entries es are what f says. -/
structure MapFn (es : List MapEntry) (f : Int → Int → Option (Int × Int)) : Prop where
  each : ∀ e ∈ es, ∃ d t l s, e.key = whoV d t ∧ Fits d ∧ Fits t ∧ e.val = readV l s ∧ f d t = some (l, s)
  all : ∀ d t l s, f d t = some (l, s) → ∃ e ∈ es, e.key = whoV d t ∧ e.val = readV l s
  apart : es.Pairwise (fun a b => a.key ≠ b.key)

def fnDel (f : Int → Int → Option (Int × Int)) (d t : Int) : Int → Int → Option (Int × Int) := fun d' t' => if d' = d ∧ t' = t then none else f d' t'
def fnPut (f : Int → Int → Option (Int × Int)) (d t l s : Int) : Int → Int → Option (Int × Int) := fun d' t' => if d' = d ∧ t' = t then some (l, s) else f d' t'

theorem MapFn.nil : MapFn [] (fun _ _ => none) := ⟨fun _ h => (nomatch h), fun _ _ _ _ h => (nomatch h), .nil⟩

theorem MapFn.keys {es : List MapEntry} {f : Int → Int → Option (Int × Int)} (h : MapFn es f) : ∀ e ∈ es, ∃ l, keyOf Try.prog 117 e.key = some l := fun e he => by
  obtain ⟨d, t, l, s, hk, h1, h2, _⟩ := h.each e he
  rw [hk]
  exact key117 h1 h2

/-- What is found. -/
theorem MapFn.find {es : List MapEntry} {f : Int → Int → Option (Int × Int)} (h : MapFn es f) (w : World) {d t : Int} (h1 : Fits d) (h2 : Fits t) :
    ((Instr.findKey 117 (whoV d t) es).run Try.prog w = .ok none w ∧ f d t = none ∧ ∀ e ∈ es, e.key ≠ whoV d t) ∨
    ∃ (j : Nat) (e : MapEntry) (l s : Int), (Instr.findKey 117 (whoV d t) es).run Try.prog w = .ok (some (j, readV l s)) w ∧ es[j]? = some e ∧ e.key = whoV d t ∧ f d t = some (l, s) := by
  obtain ⟨lx, hx⟩ := key117 h1 h2
  rcases law117.find w hx es h.keys with ⟨a, b⟩ | ⟨j, e, a, b, c⟩
  · refine .inl ⟨a, ?_, b⟩
    cases hf : f d t with
    | none => rfl
    | some x =>
      obtain ⟨e, he, hk, _⟩ := h.all d t x.1 x.2 hf
      exact absurd hk (b e he)
  · obtain ⟨d', t', l, s, hk, _, _, hv, hf⟩ := h.each e (List.mem_of_getElem? b)
    obtain ⟨rfl, rfl⟩ := whoV_inj (hk.symm.trans c)
    exact .inr ⟨j, e, l, s, by rw [a, hv], b, c, hf⟩

theorem MapFn.del {es : List MapEntry} {f : Int → Int → Option (Int × Int)} (h : MapFn es f) {d t : Int} {j : Nat} {e : MapEntry} (hj : es[j]? = some e) (hk : e.key = whoV d t) : MapFn (es.eraseIdx j) (fnDel f d t) := by
  have hsub : ∀ x ∈ es.eraseIdx j, x ∈ es := fun x hx => (List.eraseIdx_sublist es j).subset hx
  have hne : ∀ x ∈ es.eraseIdx j, x.key ≠ whoV d t := by
    intro x hx hxk
    obtain ⟨i, hi, hij⟩ := List.mem_eraseIdx_iff_getElem?.1 hx
    have hpw := List.pairwise_iff_getElem.1 h.apart
    have hji := List.getElem?_eq_some_iff.1 hj
    have hii := List.getElem?_eq_some_iff.1 hij
    obtain ⟨hjl, hje⟩ := hji
    obtain ⟨hil, hie⟩ := hii
    rcases Nat.lt_or_gt_of_ne hi with hlt | hlt
    · exact hpw i j hil hjl hlt (by rw [hie, hje, hxk, hk])
    · exact hpw j i hjl hil hlt (by rw [hie, hje, hxk, hk])
  refine ⟨fun x hx => ?_, fun d' t' l s hf => ?_, h.apart.sublist (List.eraseIdx_sublist es j)⟩
  · obtain ⟨d', t', l, s, a, b, c, g, k⟩ := h.each x (hsub x hx)
    refine ⟨d', t', l, s, a, b, c, g, ?_⟩
    unfold fnDel
    rw [if_neg (fun hh => hne x hx (by rw [a, hh.1, hh.2]))]
    exact k
  · unfold fnDel at hf
    split at hf
    · cases hf
    · rename_i hno
      obtain ⟨x, hx, a, b⟩ := h.all d' t' l s hf
      obtain ⟨i, hi⟩ := List.mem_iff_getElem?.1 hx
      refine ⟨x, List.mem_eraseIdx_iff_getElem?.2 ⟨i, fun hij => ?_, hi⟩, a, b⟩
      subst hij
      rw [hj] at hi
      cases hi
      exact hno (whoV_inj (a.symm.trans hk))

theorem MapFn.del_none {es : List MapEntry} {f : Int → Int → Option (Int × Int)} (h : MapFn es f) {d t : Int} (hf : f d t = none) : MapFn es (fnDel f d t) := by
  have : fnDel f d t = f := by
    funext d' t'
    unfold fnDel
    split
    · rename_i hh; rw [hh.1, hh.2, hf]
    · rfl
  rw [this]
  exact h

theorem MapFn.put_new {es : List MapEntry} {f : Int → Int → Option (Int × Int)} (h : MapFn es f) {d t l s : Int} (h1 : Fits d) (h2 : Fits t) (hf : ∀ e ∈ es, e.key ≠ whoV d t) (b : Nat) : MapFn (es ++ [{ key := whoV d t, val := readV l s, born := b }]) (fnPut f d t l s) := by
  refine ⟨fun x hx => ?_, fun d' t' l' s' hg => ?_, ?_⟩
  · rcases List.mem_append.1 hx with hx | hx
    · obtain ⟨d', t', l', s', a, b', c, g, k⟩ := h.each x hx
      refine ⟨d', t', l', s', a, b', c, g, ?_⟩
      unfold fnPut
      rw [if_neg (fun hh => hf x hx (by rw [a, hh.1, hh.2]))]
      exact k
    · simp at hx
      subst hx
      exact ⟨d, t, l, s, rfl, h1, h2, rfl, by simp [fnPut]⟩
  · unfold fnPut at hg
    split at hg
    · rename_i hh
      cases hg
      refine ⟨{ key := whoV d t, val := readV l s, born := b }, List.mem_append.2 (.inr (by simp)), ?_, rfl⟩
      show whoV d t = whoV d' t'
      rw [hh.1, hh.2]
    · obtain ⟨x, hx, a, c⟩ := h.all d' t' l' s' hg
      exact ⟨x, List.mem_append.2 (.inl hx), a, c⟩
  · rw [List.pairwise_append]
    refine ⟨h.apart, by simp, fun a ha c hc => ?_⟩
    simp at hc
    subst hc
    exact hf a ha

theorem zero129 (w : World) : (zeroValue 129).run Try.prog w = .ok (readV 0 0) w := by kernel_rfl

section
variable {w : World} {g clock : Nat} {es : Array MapEntry} {f : Int → Int → Option (Int × Int)} {d t : Int}

def found (o : Option (Int × Int)) : Value := match o with
  | some x => readV x.1 x.2
  | none => readV 0 0

theorem run_lookup105 (hb : w.heap[g]? = some (.map es clock)) (h : MapFn es.toList f) (h1 : Fits d) (h2 : Fits t) :
    (Instr.lookup 105 (.map (some g)) (whoV d t) true).run Try.prog w = .ok (.tuple #[found (f d t), .bool (f d t).isSome]) w := by
  obtain ⟨lx, hx⟩ := key117 h1 h2
  rcases h.find w h1 h2 with ⟨hr, hf, _⟩ | ⟨j, e, l, s, hr, hj, hk, hf⟩
  · simp [Instr.lookup, run_underlying Try.underlying105, MapKept.run_getObj_map hb, law117.check w _ hx, hr, hf, zero129, found, Result.andThen, readV]
  · simp [Instr.lookup, run_underlying Try.underlying105, MapKept.run_getObj_map hb, law117.check w _ hx, hr, hf, found, Result.andThen]

theorem run_delete105 (hb : w.heap[g]? = some (.map es clock)) (h : MapFn es.toList f) (h1 : Fits d) (h2 : Fits t) (ty : TypeId) :
    ∃ es', (Builtin.delete_ #[105, 117] ty #[.map (some g), whoV d t]).run Try.prog w = .ok (.tuple #[]) (setBlock w g (.map es' clock)) ∧ MapFn es'.toList (fnDel f d t) := by
  obtain ⟨lx, hx⟩ := key117 h1 h2
  rcases h.find w h1 h2 with ⟨hr, hf, _⟩ | ⟨j, e, l, s, hr, hj, hk, hf⟩
  · refine ⟨es, ?_, h.del_none hf⟩
    simp [Builtin.delete_, run_underlying Try.underlying105, MapKept.run_getObj_map hb, law117.check w _ hx, hr, Result.andThen, MapKept.run_setObj_map _ hb, setBlock]
  · refine ⟨es.eraseIdxIfInBounds j, ?_, ?_⟩
    · simp [Builtin.delete_, run_underlying Try.underlying105, MapKept.run_getObj_map hb, law117.check w _ hx, hr, Result.andThen, MapKept.run_setObj_map _ hb, setBlock]
    · have := h.del hj hk
      rw [Array.toList_eraseIdxIfInBounds]
      exact this

theorem run_update105 (hb : w.heap[g]? = some (.map es clock)) (h : MapFn es.toList f) (h1 : Fits d) (h2 : Fits t) (hn : f d t = none) (l s : Int) :
    ∃ es' clock', (Instr.mapUpdate 105 (.map (some g)) (whoV d t) (readV l s)).run Try.prog w = .ok () (setBlock w g (.map es' clock')) ∧ MapFn es'.toList (fnPut f d t l s) := by
  obtain ⟨lx, hx⟩ := key117 h1 h2
  rcases h.find w h1 h2 with ⟨hr, hf, hno⟩ | ⟨j, e, l', s', hr, hj, hk, hf⟩
  · refine ⟨es.push { key := whoV d t, val := readV l s, born := clock }, clock + 1, ?_, ?_⟩
    · simp [Instr.mapUpdate, run_underlying Try.underlying105, MapKept.run_getObj_map hb, law117.check w _ hx, hr, Result.andThen, MapKept.run_setObj_map _ hb, setBlock]
    · rw [Array.toList_push]
      exact h.put_new h1 h2 hno clock
  · rw [hn] at hf; cases hf
end
end Go.Proofs.Ytniiefcbiapieaa
