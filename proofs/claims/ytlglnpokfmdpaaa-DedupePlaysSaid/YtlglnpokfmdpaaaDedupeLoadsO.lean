/- The arguments of DedupeLoads, opened. -/
import Derived.Test.YtlglnpokfmdpaaaDedupeLoadsW
import Derived.Test.YtlglnpokfmdpaaaLibRead
namespace Go.Proofs.Ytlglnpokfmdpaaa
open Go Go.RowKit Go.Maps Go.ChangeShapes Go.WideShapes

theorem flat41 : flat Try.prog 5 41 = some [.i .i64, .i .i64, .i .i64, .i .i64] := by kernel_rfl
section
variable {H : Type} {enc : TypeId × Value → H} {W : World}
theorem seen_cells {cs : List Value} {sp : Nat → Bool} {held : Bool} (h : CKall enc Try.prog W 0 sp held [.i .i64, .i .i64, .i .i64, .i .i64] cs) : ∃ x : SE, cs = encSeen x ∧ (Lit.int .i64 x.1).wf = true := by
  obtain _ | ⟨c0, _ | ⟨c1, _ | ⟨c2, _ | ⟨c3, _ | ⟨c4, r⟩⟩⟩⟩⟩ := cs
  · exact h.elim
  · exact h.2.elim
  · exact h.2.2.elim
  · exact h.2.2.2.elim
  · obtain ⟨⟨a, rfl, ha⟩, ⟨b, rfl, hb⟩, ⟨c, rfl, hc⟩, ⟨d, rfl, hd⟩, _⟩ := h
    exact ⟨(a, b, c, d), rfl, ha⟩
  · exact h.2.2.2.2.elim
theorem seens_open {r : Reach} {b0 : Nat} {v : Value} {d : DataW H} {p : List MemPlace} (hv : Value.okWide Try.prog W r b0 38 v) (h : DataW.Trod enc Try.prog W 0 (fun _ => true) true 38 v d p) :
    ∃ a len cap z, v = .slice a len cap ∧ SeA W a len z ∧ len ≤ maxLen := by
  obtain ⟨a, len, cap, rfl, hl, hm, hr⟩ := open_row Try.underlying38 flat41 (by kernel_rfl) (by decide) hv h
  have : Inhabited SE := ⟨(0, 0, 0, 0)⟩
  obtain ⟨z, hz⟩ := choose_row hr encSeen (fun i cs hcs => let ⟨x, e, _⟩ := seen_cells hcs; ⟨x, e⟩)
  refine ⟨a, len, cap, z, rfl, ⟨?_, ?_⟩, by omega⟩
  · rcases hz with h0 | ⟨b, off, _, _, hi⟩
    · intro i hi'; omega
    · intro i hi'
      obtain ⟨x, e, h1⟩ := seen_cells (hi i hi').1
      simp only [encSeen, List.cons.injEq, Value.int.injEq, and_true, true_and] at e
      rw [e.1]
      exact h1
  · rcases hz with h0 | ⟨b, off, ha, hb, hi⟩
    · exact Or.inl h0
    · refine Or.inr ⟨b, off, ha, hb, fun i hi' => ?_⟩
      have := (hi i hi').2
      exact ⟨by simpa [encSeen] using this 0 (by decide), by simpa [encSeen] using this 1 (by decide), by simpa [encSeen] using this 2 (by decide), by simpa [encSeen] using this 3 (by decide)⟩
theorem seen_open {r : Reach} {b0 : Nat} {v : Value} {d : DataW H} {p : List MemPlace} (hv : Value.okWide Try.prog W r b0 41 v) (h : DataW.Trod enc Try.prog W 0 (fun _ => true) true 41 v d p) :
    ∃ x0 x1 x2 x3, v = .agg #[.int .i64 x0, .int .i64 x1, .int .i64 x2, .int .i64 x3] ∧ (Lit.int .i64 x0).wf = true := by
  obtain ⟨⟨cs⟩, rfl, hc⟩ := open_flat Try.underlying41 flat41 hv h
  obtain ⟨x, e, h1⟩ := seen_cells hc
  simp only at e
  subst e
  exact ⟨x.1, x.2.1, x.2.2.1, x.2.2.2, rfl, h1⟩
end
end Go.Proofs.Ytlglnpokfmdpaaa
