/- Cells that are read, carried from world to world. -/
import Derived.Test.YtopgepifakdpfaaDoorLibOwn
namespace Go.Proofs.YtopgepifakdpfaaDoor
open Go Go.RowKit Go.Maps
section
variable {w w' : World} {p1 p2 p3 p4 p5 p6 : Addr} {v1 v2 v3 v4 v5 v6 : Value}
theorem ks1 (h : w.cell? p1 = some v1) (k : Keep NoB w w') : w'.cell? p1 = some v1 := k.some h (fun h => h)
theorem ks2 (h : w.cell? p1 = some v1 ∧ w.cell? p2 = some v2) (k : Keep NoB w w') : w'.cell? p1 = some v1 ∧ w'.cell? p2 = some v2 := ⟨ks1 h.1 k, ks1 h.2 k⟩
theorem ks3 (h : w.cell? p1 = some v1 ∧ w.cell? p2 = some v2 ∧ w.cell? p3 = some v3) (k : Keep NoB w w') : w'.cell? p1 = some v1 ∧ w'.cell? p2 = some v2 ∧ w'.cell? p3 = some v3 := ⟨ks1 h.1 k, ks2 h.2 k⟩
theorem ks4 (h : w.cell? p1 = some v1 ∧ w.cell? p2 = some v2 ∧ w.cell? p3 = some v3 ∧ w.cell? p4 = some v4) (k : Keep NoB w w') : w'.cell? p1 = some v1 ∧ w'.cell? p2 = some v2 ∧ w'.cell? p3 = some v3 ∧ w'.cell? p4 = some v4 := ⟨ks1 h.1 k, ks3 h.2 k⟩
theorem ks5 (h : w.cell? p1 = some v1 ∧ w.cell? p2 = some v2 ∧ w.cell? p3 = some v3 ∧ w.cell? p4 = some v4 ∧ w.cell? p5 = some v5) (k : Keep NoB w w') : w'.cell? p1 = some v1 ∧ w'.cell? p2 = some v2 ∧ w'.cell? p3 = some v3 ∧ w'.cell? p4 = some v4 ∧ w'.cell? p5 = some v5 := ⟨ks1 h.1 k, ks4 h.2 k⟩
theorem ks6 (h : w.cell? p1 = some v1 ∧ w.cell? p2 = some v2 ∧ w.cell? p3 = some v3 ∧ w.cell? p4 = some v4 ∧ w.cell? p5 = some v5 ∧ w.cell? p6 = some v6) (k : Keep NoB w w') : w'.cell? p1 = some v1 ∧ w'.cell? p2 = some v2 ∧ w'.cell? p3 = some v3 ∧ w'.cell? p4 = some v4 ∧ w'.cell? p5 = some v5 ∧ w'.cell? p6 = some v6 := ⟨ks1 h.1 k, ks5 h.2 k⟩
/-- The blocks of a slice of one's own are new: what is old stays. -/
theorem Own.knob {α : Type} {w w' w0 : World} {e : TypeId} {size : Nat} {enc : α → List Value} {v : Value} {N : List α} (h : Own w w0.heap.size e size enc v N) (k0 : Keep NoB w0 w) (k : Keep (fun g => v.ownBlock = Option.some g) w w') : Keep NoB w0 w' :=
  k0.trans' k (fun i hi e => by have := h.fresh i e; omega)
end
end Go.Proofs.YtopgepifakdpfaaDoor
