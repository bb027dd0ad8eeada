/- One op as an argument, opened. -/
import Derived.Test.YtgangbkompkidaaMarkerBoundO
namespace Go.Proofs.Ytgangbkompkidaa
open Go Go.RowKit Go.Maps Go.ChangeShapes Go.WideShapes

section
variable {H : Type} {enc : TypeId × Value → H} {W : World}
theorem op_open {r : Reach} {b0 : Nat} {v : Value} {d : DataW H} {p : List MemPlace} (hv : Value.okWide Try.prog W r b0 27 v) (h : DataW.Trod enc Try.prog W 0 (fun _ => true) true 27 v d p) :
    ∃ x : MOp, v = .agg (opCells x).toArray ∧ opOk x := by
  obtain ⟨⟨cs⟩, rfl, hc⟩ := open_flat Try.underlying27 info27 hv h
  obtain ⟨x, e, h1⟩ := op_cells hc
  simp only at e
  subst e
  exact ⟨x, rfl, h1⟩
end
end Go.Proofs.Ytgangbkompkidaa
