/- A call of a Go function at a step of a region that draws. -/
import Derived.Test.YtbaojfjabhgohaaLibRow
import Derived.Deep.RegionLaw
namespace Go.Proofs.Ytbaojfjabhgohaa
open Go Go.RowKit Go.Maps

section
variable {P : Program} {w : World} {ops : Array Oper} {o : Oper} {a : Act} {K : Act → World → Prop} {Q : Exit → Act → World → Prop} {E : Prop}

theorem step_call1 (hgd : o.guard = none) (f : FuncId) {fn : Func} (hfn : P.funcs[f]? = some fn) (hnm : (fn.name == "runtime.NumGoroutine") = false) (hbd : fn.body.isSome = true) (x : Operand) (t : TypeId) (ho : o.op = .call { callee := .value (.func f), args := #[x], argTypes := #[t] }) (u : Value) (hx : a.eval x = u) {R : Ending → World → Prop} (hc : Calls P f #[u] w R)
    (h : ∀ e w', R e w' → ∃ v, e = .returned v ∧ K (a.put o.dst v) w') : if Region.wanted o (yielded ops a.tmps) = true then Oper.wp P o a w K Q else E := by
  have hw : Region.wanted o (yielded ops a.tmps) = true := by simp [Region.wanted, hgd]
  rw [if_pos hw]
  have hf : a.eval (.func f) = .func (.func f) #[] #[] := rfl
  have hnm' : ¬ fn.name = "runtime.NumGoroutine" := by simpa using hnm
  have hbd' : ¬ fn.body = none := by intro e; rw [e] at hbd; cases hbd
  unfold Oper.wp
  simp [hfn, hnm', hbd', execOp, ho, resolve, invoke, hx, hf, Deferred.ofValue, callFunc, Result.andThen, Oper.upon]
  exact hc.mono (fun e w' he => by obtain ⟨v, rfl, hk⟩ := h e w' he; exact hk)
end
end Go.Proofs.Ytbaojfjabhgohaa
