/- The script of the Marker laws, opened. -/
import Derived.Test.YtgangbkompkidaaMarkerBoundW
import Derived.Test.YtgangbkompkidaaLibRead
namespace Go.Proofs.Ytgangbkompkidaa
open Go Go.RowKit Go.Maps Go.ChangeShapes Go.WideShapes

theorem info27 : flat Try.prog 5 27 = some [.i .i64, .s, .i .i64, .i .i64] := by kernel_rfl

section
variable {H : Type} {enc : TypeId × Value → H} {W : World}
theorem op_cells {cs : List Value} {sp : Nat → Bool} {held : Bool} (h : CKall enc Try.prog W 0 sp held [.i .i64, .s, .i .i64, .i .i64] cs) : ∃ x : MOp, cs = opCells x ∧ opOk x := by
  obtain _ | ⟨c0, _ | ⟨c1, _ | ⟨c2, _ | ⟨c3, _ | ⟨c4, r⟩⟩⟩⟩⟩ := cs
  · exact h.elim
  · exact h.2.elim
  · exact h.2.2.elim
  · exact h.2.2.2.elim
  · obtain ⟨⟨a, rfl, ha⟩, ⟨s, rfl, hs⟩, ⟨b, rfl, hb⟩, ⟨c, rfl, hc⟩, _⟩ := h
    exact ⟨(a, s, b, c), rfl, hs, hb, hc⟩
  · exact h.2.2.2.2.elim

theorem ops_open {r : Reach} {b0 : Nat} {v : Value} {d : DataW H} {p : List MemPlace} (hv : Value.okWide Try.prog W r b0 22 v) (h : DataW.Trod enc Try.prog W 0 (fun _ => true) true 22 v d p) :
    ∃ a len cap z, v = .slice a len cap ∧ IsOps W a len z := by
  obtain ⟨a, len, cap, rfl, hl, hm, hr⟩ := open_row Try.underlying22 info27 (by kernel_rfl) (by decide) hv h
  have : Inhabited MOp := ⟨(0, ⟨#[]⟩, 0, 0)⟩
  obtain ⟨z, hz⟩ := choose_row hr opCells (fun i cs hcs => let ⟨x, e, _⟩ := op_cells hcs; ⟨x, e⟩)
  refine ⟨a, len, cap, z, rfl, by omega, ?_, ?_⟩
  · rcases hz with h0 | ⟨b, off, _, _, hi⟩
    · intro i hi'; omega
    · intro i hi'
      obtain ⟨x, e, h1⟩ := op_cells (hi i hi').1
      simp only [opCells, List.cons.injEq, Value.int.injEq, Value.string.injEq, and_true, true_and] at e
      have : z i = x := Prod.ext e.1 (Prod.ext e.2.1 (Prod.ext e.2.2.1 e.2.2.2))
      rw [this]
      exact h1
  · rcases hz with h0 | ⟨b, off, ha, hb, hi⟩
    · exact Or.inl h0
    · refine Or.inr ⟨b, off, ha, hb, fun i hi' => ?_⟩
      have := (hi i hi').2
      exact ⟨by simpa [opCells] using this 0 (by decide), by simpa [opCells] using this 1 (by decide), by simpa [opCells] using this 2 (by decide), by simpa [opCells] using this 3 (by decide)⟩
end
end Go.Proofs.Ytgangbkompkidaa
