/- The arguments of DetectPlays, opened. -/
import Derived.Test.YtjfkpjooandpeaaDetectPlaysW
import Derived.Test.YtjfkpjooandpeaaDetectO
namespace Go.Proofs.Ytjfkpjooandpeaa
open Go Go.RowKit Go.Maps Go.ChangeShapes Go.WideShapes

def dopCells (x : DOp) : List Value := [.int .i64 x.1, .string x.2]
theorem info34 : flat Try.prog 5 34 = some [.i .i64, .s] := by kernel_rfl

section
variable {H : Type} {enc : TypeId × Value → H} {W : World}
theorem dop_cells {cs : List Value} {sp : Nat → Bool} {held : Bool} (h : CKall enc Try.prog W 0 sp held [.i .i64, .s] cs) : ∃ x : DOp, cs = dopCells x ∧ x.2.size ≤ maxLen := by
  obtain _ | ⟨c0, _ | ⟨c1, _ | ⟨c2, r⟩⟩⟩ := cs
  · exact h.elim
  · exact h.2.elim
  · obtain ⟨⟨b, rfl, hb⟩, ⟨s, rfl, hs⟩, _⟩ := h
    exact ⟨(b, s), rfl, hs⟩
  · exact h.2.2.elim

theorem dops_open {r : Reach} {b0 : Nat} {v : Value} {d : DataW H} {p : List MemPlace} (hv : Value.okWide Try.prog W r b0 30 v) (h : DataW.Trod enc Try.prog W 0 (fun _ => true) true 30 v d p) :
    ∃ a len cap z, v = .slice a len cap ∧ IsDOp W a len z := by
  obtain ⟨a, len, cap, rfl, hl, hm, hr⟩ := open_row Try.underlying30 info34 (by kernel_rfl) (by decide) hv h
  have : Inhabited DOp := ⟨(0, ⟨#[]⟩)⟩
  obtain ⟨z, hz⟩ := choose_row hr dopCells (fun i cs hcs => let ⟨x, e, _⟩ := dop_cells hcs; ⟨x, e⟩)
  refine ⟨a, len, cap, z, rfl, by omega, ?_, ?_⟩
  · rcases hz with h0 | ⟨b, off, _, _, hi⟩
    · intro i hi'; omega
    · intro i hi'
      obtain ⟨x, e, h1⟩ := dop_cells (hi i hi').1
      simp only [dopCells, List.cons.injEq, Value.int.injEq, Value.string.injEq, and_true, true_and] at e
      have : z i = x := Prod.ext e.1 e.2
      rw [this]
      exact h1
  · rcases hz with h0 | ⟨b, off, ha, hb, hi⟩
    · exact Or.inl h0
    · refine Or.inr ⟨b, off, ha, hb, fun i hi' => ?_⟩
      have := (hi i hi').2
      exact ⟨by simpa [dopCells] using this 0 (by decide), by simpa [dopCells] using this 1 (by decide)⟩
end
end Go.Proofs.Ytjfkpjooandpeaa
