/- An operation of a plan whose run is told. -/
import Derived.Test.YtopgepifakdpfaaDoorLibReg2
namespace Go.Proofs.YtopgepifakdpfaaDoor
open Go Go.RowKit
section
variable {P : Program} {ops : Array Oper} {Q : Exit → Act → World → Prop} {S : World → Prop} {W : Nat → Bool}
/-- The one that is ready, its run told. -/
theorem pl_act {r : Pl} {i : Nat} {t : Array Value} {df : List Deferred} {w w' : World} {o : Oper} {v : Value} {d : Nat} {t' : Array Value} (hi : ops[i]? = some o) (hd : o.dst = some d)
    (hw : Region.wanted o (yielded ops t) = true) (hr : (execOp (Act.eval ⟨t, df⟩) o).run P w = .ok (.value v) w') (ht : t.setIfInBounds d v = t') (h : afterPl P ops Q S W i r .normal ⟨t', df⟩ w') : wpPl P ops Q S W (.one i r) ⟨t, df⟩ w := by
  show wpOp P ops Q i _ _ _
  unfold wpOp
  rw [hi]
  simp only
  have hw' : Region.wanted o (yielded ops (Act.mk t df).tmps) = true := hw
  rw [if_pos hw']
  left
  unfold Oper.wp
  rw [hr]
  subst ht
  simp only [Oper.upon]
  rw [hd]
  exact h
end
theorem exec_bs {P : Program} {ev : Operand → Value} {o : Oper} {t : TypeId} {x : Operand} {v r : Value} {w w' : World} (ho : o.op = .buildSlice t 1 #[(0, x)]) (hx : ev x = v)
    (h : (Instr.buildSlice t 1 #[(0, v)]).run P w = .ok r w') : (execOp ev o).run P w = .ok (.value r) w' := by
  subst hx
  unfold execOp
  rw [ho]
  simp only [List.map_toArray, List.map_cons, List.map_nil]
  simp [h, Result.andThen]
theorem exec_bd {P : Program} {ev : Operand → Value} {o : Oper} {t : TypeId} {l : List (Nat × Operand)} {m : List (Nat × Value)} {r : Value} {w w' : World} (ho : o.op = .build t l.toArray) (hx : l.map (fun p => (p.1, ev p.2)) = m)
    (h : (Instr.build t m.toArray).run P w = .ok r w') : (execOp ev o).run P w = .ok (.value r) w' := by
  subst hx
  unfold execOp
  rw [ho]
  simp only [List.map_toArray]
  simp [h, Result.andThen]
end Go.Proofs.YtopgepifakdpfaaDoor
