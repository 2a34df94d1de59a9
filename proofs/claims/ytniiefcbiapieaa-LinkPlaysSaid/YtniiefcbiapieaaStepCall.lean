/- A call of a Go function at a step of a region that draws its order. -/
import Derived.Deep.RegionLaw
namespace Go.Proofs.Ytniiefcbiapieaa
open Go

/-- Is f a function with a text? -/
def enters (P : Program) (f : FuncId) : Bool := match P.funcs[f]? with
  | some fn => !(fn.name == "runtime.NumGoroutine") && fn.body.isSome
  | none => false

theorem run_call {P : Program} {o : Oper} {a : Act} {w : World} (f : FuncId) (args : Array Operand) (tys : Array TypeId) (ho : o.op = Op.call { callee := .value (.func f), args := args, argTypes := tys })
    (hf : enters P f = true) (vals : Array Value) (hv0 : (args.toList.map a.eval).toArray = vals) : (execOp a.eval o).run P w = .ok (.enter f vals) w := by
  have hv : args.map a.eval = vals := by rw [← hv0]; apply Array.toList_inj.1; rw [Array.toList_map]
  unfold enters at hf
  split at hf
  · rename_i fn hfn
    simp only [Bool.and_eq_true, Bool.not_eq_true'] at hf
    obtain ⟨h1, h2⟩ := hf
    have h3 : fn.body.isNone = false := by cases hb : fn.body <;> simp_all
    unfold execOp
    rw [ho]
    simp [resolve, invoke, hv, Act.eval, Deferred.ofValue, callFunc, hfn, h1, h3]
    rw [if_neg (by simpa using h1), if_neg (by intro h; rw [h] at h2; cases h2)]
  · cases hf

/-- What is asked behind a call that returns. -/
def Behind (o : Oper) (a : Act) (K : Act → World → Prop) (e : Ending) (w : World) : Prop := ∃ v, e = .returned v ∧ K (a.put o.dst v) w

theorem step_call {P : Program} {ops : Array Oper} {o : Oper} {a : Act} {w : World} {K : Act → World → Prop} {Q : Exit → Act → World → Prop} {E : Prop}
    (hg : o.guard = none) (f : FuncId) (args : Array Operand) (tys : Array TypeId) (ho : o.op = Op.call { callee := .value (.func f), args := args, argTypes := tys })
    (hf : enters P f = true) (vals : Array Value) (hv : (args.toList.map a.eval).toArray = vals) (h : Calls P f vals w (Behind o a K)) :
    if Region.wanted o (yielded ops a.tmps) = true then Oper.wp P o a w K Q else E := by
  rw [if_pos (by simp [Region.wanted, hg])]
  unfold Oper.wp
  rw [run_call f args tys ho hf vals hv]
  refine Calls.mono h fun e w' he => ?_
  obtain ⟨v, rfl, hk⟩ := he
  exact hk
end Go.Proofs.Ytniiefcbiapieaa
