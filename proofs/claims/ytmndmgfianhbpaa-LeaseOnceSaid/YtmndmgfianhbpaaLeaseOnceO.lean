/- The arguments of LeaseOnce, opened. -/
import Derived.Test.YtmndmgfianhbpaaLeaseOnceW
import Derived.Test.YtmndmgfianhbpaaLibRead
namespace Go.Proofs.Ytmndmgfianhbpaa
open Go Go.RowKit Go.Maps Go.ChangeShapes Go.WideShapes

theorem info44 : flat Try.prog 5 44 = some [.i .i64, .s, .i .i64] := by kernel_rfl

section
variable {H : Type} {enc : TypeId × Value → H} {W : World}
theorem lop_cells {cs : List Value} {sp : Nat → Bool} {held : Bool} (h : CKall enc Try.prog W 0 sp held [.i .i64, .s, .i .i64] cs) : ∃ x : LOp, cs = lopCells x ∧ lopOk x := by
  obtain _ | ⟨c0, _ | ⟨c1, _ | ⟨c2, _ | ⟨c3, r⟩⟩⟩⟩ := cs
  · exact h.elim
  · exact h.2.elim
  · exact h.2.2.elim
  · obtain ⟨⟨a, rfl, ha⟩, ⟨s, rfl, hs⟩, ⟨b, rfl, hb⟩, _⟩ := h
    exact ⟨(a, s, b), rfl, ha, hs, hb⟩
  · exact h.2.2.2.elim

theorem lops_open {r : Reach} {b0 : Nat} {v : Value} {d : DataW H} {p : List MemPlace} (hv : Value.okWide Try.prog W r b0 40 v) (h : DataW.Trod enc Try.prog W 0 (fun _ => true) true 40 v d p) :
    ∃ a len cap z, v = .slice a len cap ∧ IsLOps W a len z := by
  obtain ⟨a, len, cap, rfl, hl, hm, hr⟩ := open_row Try.underlying40 info44 (by kernel_rfl) (by decide) hv h
  obtain ⟨z, hz⟩ := choose_row hr lopCells (fun i cs hcs => let ⟨x, e, _⟩ := lop_cells hcs; ⟨x, e⟩)
  refine ⟨a, len, cap, z, rfl, by omega, ?_, ?_⟩
  · rcases hz with h0 | ⟨b, off, _, _, hi⟩
    · intro i hi'; omega
    · intro i hi'
      obtain ⟨x, e, h1⟩ := lop_cells (hi i hi').1
      simp only [lopCells, List.cons.injEq, Value.int.injEq, Value.string.injEq, and_true, true_and] at e
      have : z i = x := Prod.ext e.1 (Prod.ext e.2.1 e.2.2)
      rw [this]
      exact h1
  · rcases hz with h0 | ⟨b, off, ha, hb, hi⟩
    · exact Or.inl h0
    · refine Or.inr ⟨b, off, ha, hb, fun i hi' => ?_⟩
      have := (hi i hi').2
      exact ⟨by simpa [lopCells] using this 0 (by decide), by simpa [lopCells] using this 1 (by decide), by simpa [lopCells] using this 2 (by decide)⟩
end
end Go.Proofs.Ytmndmgfianhbpaa
