/- The arguments of DedupeOwn, opened. -/
import Derived.Test.YtlglnpokfmdpaaaDedupeOwnW
namespace Go.Proofs.Ytlglnpokfmdpaaa
open Go Go.RowKit Go.Maps Go.ChangeShapes Go.WideShapes

section
variable {H : Type} {enc : TypeId × Value → H} {W : World}
theorem ask_cells {cs : List Value} {sp : Nat → Bool} {held : Bool} (h : CKall enc Try.prog W 0 sp held [.i .i64, .i .i64] cs) : ∃ x : Int × Int, cs = askCells x ∧ (Lit.int .i64 x.1).wf = true ∧ (Lit.int .i64 x.2).wf = true := by
  obtain _ | ⟨c0, _ | ⟨c1, _ | ⟨c2, r⟩⟩⟩ := cs
  · exact h.elim
  · exact h.2.elim
  · obtain ⟨⟨a, rfl, ha⟩, ⟨b, rfl, hb⟩, _⟩ := h
    exact ⟨(a, b), rfl, ha, hb⟩
  · exact h.2.2.elim

theorem asks_open {r : Reach} {b0 : Nat} {v : Value} {d : DataW H} {p : List MemPlace} (hv : Value.okWide Try.prog W r b0 22 v) (h : DataW.Trod enc Try.prog W 0 (fun _ => true) true 22 v d p) :
    ∃ a len cap z, v = .slice a len cap ∧ IsAsks W a len z := by
  obtain ⟨a, len, cap, rfl, hl, hm, hr⟩ := open_row Try.underlying22 info24 (by kernel_rfl) (by decide) hv h
  obtain ⟨z, hz⟩ := choose_row hr askCells (fun i cs hcs => let ⟨x, e, _⟩ := ask_cells hcs; ⟨x, e⟩)
  refine ⟨a, len, cap, z, rfl, by omega, ?_, ?_⟩
  · rcases hz with h0 | ⟨b, off, _, _, hi⟩
    · intro i hi'; omega
    · intro i hi'
      obtain ⟨x, e, h1, h2⟩ := ask_cells (hi i hi').1
      simp only [askCells, List.cons.injEq, Value.int.injEq, and_true, true_and] at e
      rw [e.1, e.2]
      exact ⟨h1, h2⟩
  · rcases hz with h0 | ⟨b, off, ha, hb, hi⟩
    · exact Or.inl h0
    · refine Or.inr ⟨b, off, ha, hb, fun i hi' => ?_⟩
      have := (hi i hi').2
      exact ⟨by simpa [askCells] using this 0 (by decide), by simpa [askCells] using this 1 (by decide)⟩

theorem ask_open {r : Reach} {b0 : Nat} {v : Value} {d : DataW H} {p : List MemPlace} (hv : Value.okWide Try.prog W r b0 24 v) (h : DataW.Trod enc Try.prog W 0 (fun _ => true) true 24 v d p) :
    ∃ s r, v = .agg #[.int .i64 s, .int .i64 r] ∧ (Lit.int .i64 s).wf = true := by
  obtain ⟨⟨cs⟩, rfl, hc⟩ := open_flat (ks := [.i .i64, .i .i64]) Try.underlying24 info24 hv h
  obtain ⟨x, e, h1, _⟩ := ask_cells hc
  simp only at e
  subst e
  exact ⟨x.1, x.2, rfl, h1⟩
end
end Go.Proofs.Ytlglnpokfmdpaaa
