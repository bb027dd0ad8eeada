/- Slices of texts, as the walks are told of them; opened. -/
import Derived.Test.YtieoejilppgebaaNdH
import Derived.Test.YtieoejilppgebaaLibRead
namespace Go.Proofs.Ytieoejilppgebaa
open Go Go.RowKit Go.Maps Go.ChangeShapes Go.WideShapes
set_option maxRecDepth 100000

/-- What the walk is told of a slice of texts. -/
def IsStr (w : World) (a : Option Addr) (len : Nat) (z : Nat → ByteArray) : Prop :=
  len ≤ maxLen ∧ (∀ i, i < len → (z i).size ≤ maxLen) ∧ (len = 0 ∨ ∃ b off, a = some ⟨b, off, none⟩ ∧ b < w.heap.size ∧ ∀ i, i < len → w.cell? ⟨b, off + i, none⟩ = some (.string (z i)))
theorem info9f : flat Try.prog 5 9 = some [.s] := by kernel_rfl
section
variable {H : Type} {enc : TypeId × Value → H} {W : World}
theorem str_cells {cs : List Value} {sp : Nat → Bool} {held : Bool} (h : CKall enc Try.prog W 0 sp held [.s] cs) : ∃ x : ByteArray, cs = [.string x] ∧ x.size ≤ maxLen := by
  obtain _ | ⟨c0, _ | ⟨c1, r⟩⟩ := cs
  · exact h.elim
  · obtain ⟨⟨s, rfl, hs⟩, _⟩ := h
    exact ⟨s, rfl, hs⟩
  · exact h.2.elim
theorem strs_open {r : Reach} {b0 : Nat} {v : Value} {d : DataW H} {p : List MemPlace} (hv : Value.okWide Try.prog W r b0 22 v) (h : DataW.Trod enc Try.prog W 0 (fun _ => true) true 22 v d p) :
    ∃ a len cap z, v = .slice a len cap ∧ IsStr W a len z := by
  obtain ⟨a, len, cap, rfl, hl, hm, hr⟩ := open_row Try.underlying22 info9f (by kernel_rfl) (by decide) hv h
  have : Inhabited ByteArray := ⟨⟨#[]⟩⟩
  obtain ⟨z, hz⟩ := choose_row hr (fun s : ByteArray => [Value.string s]) (fun i cs hcs => let ⟨x, e, _⟩ := str_cells hcs; ⟨x, e⟩)
  refine ⟨a, len, cap, z, rfl, by omega, ?_, ?_⟩
  · rcases hz with h0 | ⟨b, off, _, _, hi⟩
    · intro i hi'; omega
    · intro i hi'
      obtain ⟨x, e, h1⟩ := str_cells (hi i hi').1
      simp only [List.cons.injEq, Value.string.injEq, and_true] at e
      rw [e]
      exact h1
  · rcases hz with h0 | ⟨b, off, ha, hb, hi⟩
    · exact Or.inl h0
    · exact Or.inr ⟨b, off, ha, hb, fun i hi' => by have := (hi i hi').2 0 (by simp); simpa using this⟩
end
end Go.Proofs.Ytieoejilppgebaa
