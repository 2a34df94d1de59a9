/- A region that draws its order, walked by a plan: what reads comes first; then what writes, one by one, and where two may come up, both ways. -/
import Derived.Test.YtniiefcbiapieaaPerm
namespace Go.Proofs.Ytniiefcbiapieaa
open Go

inductive Plan where
  | done
  | step (k : Nat) (p : Plan)
  | fork (k1 : Nat) (p1 : Plan) (k2 : Nat) (p2 : Plan)

def Plan.len : Plan → Nat
  | .done => 0
  | .step _ p => p.len + 1
  | .fork _ p1 _ p2 => max p1.len p2.len + 1

namespace Plan
open Perm
section
variable {P : Program} {ops : Array Oper} {md : Region.Mode} {Q : Exit → Act → World → Prop} {S : World → Prop} {need : Nat → Bool}

def wp (P : Program) (ops : Array Oper) (Q : Exit → Act → World → Prop) (S : World → Prop) (need : Nat → Bool) : Plan → Act → World → Prop
  | .done, a, w => Q .normal a w
  | .step k p, a, w => match ops[k]? with
    | some o =>
      if pureB o = true then ∃ v, (∀ w, (execOp a.eval o).run P w = .ok (.value v) w) ∧ wp P ops Q S need p (a.put o.dst v) w
      else o.wp P a w (fun a' w' => (need k = true → S w → S w') ∧ wp P ops Q S need p a' w') Q
    | none => False
  | .fork k1 p1 k2 p2, a, w => (match ops[k1]? with
    | some o => o.wp P a w (fun a' w' => (need k1 = true → S w → S w') ∧ wp P ops Q S need p1 a' w') Q
    | none => False) ∧ (match ops[k2]? with
    | some o => o.wp P a w (fun a' w' => (need k2 = true → S w → S w') ∧ wp P ops Q S need p2 a' w') Q
    | none => False)

def ok (md : Region.Mode) (ops : Array Oper) : Plan → Array Bool → Bool
  | .done, listed => (Region.ready md ops listed).isEmpty
  | .step k p, listed => ((ops[k]?).map fun o => o.guard.isNone && if pureB o then (Region.ready md ops listed).contains k && Region.free md ops listed k else Region.ready md ops listed == [k]).getD false && ok md ops p (listed.setIfInBounds k true)
  | .fork k1 p1 k2 p2, listed => (Region.ready md ops listed == [k1, k2]) && ((ops[k1]?).map fun o => o.guard.isNone && !pureB o).getD false && ((ops[k2]?).map fun o => o.guard.isNone && !pureB o).getD false &&
      ok md ops p1 (listed.setIfInBounds k1 true) && ok md ops p2 (listed.setIfInBounds k2 true)

theorem any_mono : ∀ (f : Nat) (listed : Array Bool) (a : Act) (w : World), wpAnyN P md ops Q S need f listed a w → wpAnyN P md ops Q S need (f + 1) listed a w
  | 0, listed, a, w, h => ⟨fun _ => h.2, fun i hi => (by rw [h.1] at hi; cases hi)⟩
  | f + 1, listed, a, w, h => ⟨h.1, fun i hi => wpOp_mono (fun a' w' h' => ⟨h'.1, any_mono f _ a' w' h'.2⟩) (h.2 i hi)⟩
theorem any_more {f g : Nat} (hfg : f ≤ g) {listed : Array Bool} {a : Act} {w : World} (h : wpAnyN P md ops Q S need f listed a w) : wpAnyN P md ops Q S need g listed a w := by
  induction g with
  | zero =>
    have : f = 0 := by omega
    subst this
    exact h
  | succ g ih =>
    by_cases e : f = g + 1
    · subst e; exact h
    · exact any_mono g _ _ _ (ih (by omega))

theorem any_of (hsel : Region.noSelect ops = true) (hQ : ∀ c (a : Act) d v w, Q (.panic c) (a.put d v) w → Q (.panic c) a w) :
    ∀ (p : Plan) (listed : Array Bool) (a : Act) (w : World), Closed md ops listed → ok md ops p listed = true → wp P ops Q S need p a w →
      wpAnyN P md ops Q S need p.len listed a w
  | .done, listed, a, w, _, hB, h => ⟨by simpa [ok] using hB, h⟩
  | .step k p, listed, a, w, hc, hB, h => by
    cases h0 : ops[k]? with
    | none => simp [ok, h0] at hB
    | some o =>
      simp only [ok, h0, Option.map_some, Option.getD_some, Bool.and_eq_true] at hB
      obtain ⟨⟨hg, hB1⟩, hB2⟩ := hB
      unfold wp at h
      rw [h0] at h
      dsimp only at h
      by_cases hp : pureB o = true
      · rw [if_pos hp] at hB1 h
        simp only [Bool.and_eq_true] at hB1
        obtain ⟨v, hv, hrest⟩ := h
        have hr : k ∈ Region.ready md ops listed := by simpa using hB1.1
        exact wpAnyN_first (S0 := fun _ => True) h0 (Region.noSelect_spec hsel) (fun c a w => hQ c a _ _ w) (fun _ _ _ _ _ _ => trivial) p.len listed a w hc (Region.free_spec h0 hB1.2) hr (.inl ⟨wanted_none hg _, fun w' _ => hv w'⟩) trivial
          (any_of hsel hQ p _ _ w (hc.set hr) hB2 hrest)
      · rw [if_neg hp] at hB1 h
        have hr : Region.ready md ops listed = [k] := by simpa using hB1
        have hrk : k ∈ Region.ready md ops listed := by rw [hr]; simp
        refine ⟨fun h1 => (by rw [hr] at h1; cases h1), fun i hi => ?_⟩
        rw [hr] at hi
        have hik : i = k := by simpa using hi
        subst hik
        unfold wpOp
        simp only [h0, wanted_none hg, if_true]
        exact .inl (Oper.wp_mono (fun a' w' h' => ⟨h'.1, any_of hsel hQ p _ a' w' (hc.set hrk) hB2 h'.2⟩) h)
  | .fork k1 p1 k2 p2, listed, a, w, hc, hB, h => by
    cases h1 : ops[k1]? with
    | none => simp [ok, h1] at hB
    | some o1 =>
      cases h2 : ops[k2]? with
      | none => simp [ok, h2] at hB
      | some o2 =>
        simp only [ok, h1, h2, Option.map_some, Option.getD_some, Bool.and_eq_true] at hB
        obtain ⟨⟨⟨⟨hr0, hg1, _⟩, hg2, _⟩, hB1⟩, hB2⟩ := hB
        have hr : Region.ready md ops listed = [k1, k2] := by simpa using hr0
        unfold wp at h
        rw [h1, h2] at h
        dsimp only at h
        refine ⟨fun h1 => (by rw [hr] at h1; cases h1), fun i hi => ?_⟩
        have hi0 := hi
        rw [hr] at hi
        have hik : i = k1 ∨ i = k2 := by simpa using hi
        rcases hik with rfl | rfl
        · unfold wpOp
          simp only [h1, wanted_none hg1, if_true]
          exact .inl (Oper.wp_mono (fun a' w' h' => ⟨h'.1, any_more (Nat.le_max_left _ _) (any_of hsel hQ p1 _ a' w' (hc.set hi0) hB1 h'.2)⟩) h.1)
        · unfold wpOp
          simp only [h2, wanted_none hg2, if_true]
          exact .inl (Oper.wp_mono (fun a' w' h' => ⟨h'.1, any_more (Nat.le_max_right _ _) (any_of hsel hQ p2 _ a' w' (hc.set hi0) hB2 h'.2)⟩) h.2)

def allB (md : Region.Mode) (l : List Oper) (one : List Nat) (p : Plan) : Bool :=
  Region.noSelect l.toArray && decide (one.length + p.len = l.length) && lightB md l.toArray one (Array.replicate l.length false) && ok md l.toArray p (setAll one (Array.replicate l.length false))

/-- The region: 'one' may be taken first; what is left goes by the plan. -/
theorem region {id : Nat} {a : Act} {w : World} (one : List Nat) (p : Plan) (S : World → Prop) (hm : P.follows .mixedOrders = true) {l : List Oper} (hB : allB .any l one p = true) (hQ' : ∀ c (a : Act) t v w, Q (.panic c) (a.put (some t) v) w → Q (.panic c) a w)
    (hS : S w.drew) (h : wpLight P l.toArray S (fun a' => wp P l.toArray Q S (needB .any l.toArray one) p a' w.drew) one a) : (Code.region id l.toArray true).wp P Q a w := by
  have hQ : ∀ c (a : Act) d v w, Q (.panic c) (a.put d v) w → Q (.panic c) a w := fun c a d v w h => by
    cases d with
    | none => exact h
    | some t => exact hQ' c a t v w h
  simp only [allB, Bool.and_eq_true, decide_eq_true_eq] at hB
  obtain ⟨⟨⟨hsel, hn⟩, h1⟩, h2⟩ := hB
  have hc0 : Closed .any l.toArray (Array.replicate l.length false) := fun j oj _ hl => by rw [getD_replicate_false] at hl; cases hl
  refine wp_region_any hm (wpAny_of_N (S := S) (need := needB .any l.toArray one) _ _ _ _ ?_)
  have hsz : l.toArray.size = l.length := by simp
  rw [hsz]
  have hg := light_any (one := one) (fun _ => rfl) hsel hQ hS one _ a (fun _ h => h) hc0 h1 (fun a' hK hc => any_of hsel hQ p _ a' w.drew hc h2 hK) h
  rw [hn] at hg
  exact hg

theorem p_done {a : Act} {w : World} (h : Q .normal a w) : wp P ops Q S need .done a w := h
theorem p_pure {k : Nat} {p : Plan} {a : Act} {w : World} {o : Oper} (h0 : ops[k]? = some o) (hp : pureB o = true) (v : Value) (hv : ∀ w, (execOp a.eval o).run P w = .ok (.value v) w) (h : wp P ops Q S need p (a.put o.dst v) w) : wp P ops Q S need (.step k p) a w := by
  unfold wp; rw [h0]; dsimp only; rw [if_pos hp]; exact ⟨v, hv, h⟩
/-- A step that writes: what is asked at the operation. -/
def At (P : Program) (ops : Array Oper) (Q : Exit → Act → World → Prop) (S : World → Prop) (need : Nat → Bool) (k : Nat) (p : Plan) (a : Act) (w : World) : Prop :=
  match ops[k]? with
  | some o => o.wp P a w (fun a' w' => (need k = true → S w → S w') ∧ wp P ops Q S need p a' w') Q
  | none => False
theorem p_step {k : Nat} {p : Plan} {a : Act} {w : World} {o : Oper} (h0 : ops[k]? = some o) (hp : pureB o = false) (h : At P ops Q S need k p a w) : wp P ops Q S need (.step k p) a w := by
  unfold At at h; unfold wp; rw [h0] at h ⊢; dsimp only at h ⊢; rw [if_neg (by rw [hp]; decide)]; exact h
theorem p_fork {k1 k2 : Nat} {p1 p2 : Plan} {a : Act} {w : World} (h1 : At P ops Q S need k1 p1 a w) (h2 : At P ops Q S need k2 p2 a w) : wp P ops Q S need (.fork k1 p1 k2 p2) a w := by
  unfold wp; exact ⟨h1, h2⟩
theorem at_run {k : Nat} {p : Plan} {a : Act} {w w' : World} {o : Oper} (h0 : ops[k]? = some o) (n : Next) (v : Value) (hn : n = .value v ∨ n = .skip ∧ v = undef) (hv : (execOp a.eval o).run P w = .ok n w') (hS : need k = true → S w → S w') (h : wp P ops Q S need p (a.put o.dst v) w') : At P ops Q S need k p a w := by
  unfold At; rw [h0]; dsimp only
  unfold Oper.wp
  rw [hv]
  rcases hn with rfl | ⟨rfl, rfl⟩ <;> exact ⟨hS, h⟩
def Behind (P : Program) (ops : Array Oper) (Q : Exit → Act → World → Prop) (S : World → Prop) (need : Nat → Bool) (k : Nat) (p : Plan) (o : Oper) (a : Act) (w : World) (e : Ending) (w' : World) : Prop :=
  ∃ v, e = .returned v ∧ (need k = true → S w → S w') ∧ wp P ops Q S need p (a.put o.dst v) w'
theorem at_call {k : Nat} {p : Plan} {a : Act} {w : World} {o : Oper} (h0 : ops[k]? = some o) (f : FuncId) (args : Array Operand) (tys : Array TypeId) (ho : o.op = Op.call { callee := .value (.func f), args := args, argTypes := tys })
    (hf : enters P f = true) (vals : Array Value) (hv : (args.toList.map a.eval).toArray = vals) (h : Calls P f vals w (Behind P ops Q S need k p o a w)) : At P ops Q S need k p a w := by
  unfold At; rw [h0]; dsimp only
  unfold Oper.wp
  rw [run_call f args tys ho hf vals hv]
  refine Calls.mono h fun e w' he => ?_
  obtain ⟨v, rfl, hk⟩ := he
  exact hk
theorem at_law {k : Nat} {p : Plan} {a : Act} {w : World} {o : Oper} (h0 : ops[k]? = some o) (h : ∀ K : Act → World → Prop, (∀ a' w', (need k = true → S w → S w') → wp P ops Q S need p a' w' → K a' w') → o.wp P a w K Q) : At P ops Q S need k p a w := by
  unfold At; rw [h0]; dsimp only
  exact h _ fun a' w' h1 h2 => ⟨h1, h2⟩
end
end Plan
end Go.Proofs.Ytniiefcbiapieaa
