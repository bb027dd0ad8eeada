/- The arguments of chapter 6's laws, opened. -/
import Derived.Test.YtgbcjnejlelndaaLruQ
import Derived.Test.YtgbcjnejlelndaaLibRead
namespace Go.Proofs.Ytgbcjnejlelndaa
open Go Go.RowKit Go.Maps Go.ChangeShapes Go.WideShapes

theorem info39 : flat Try.prog 5 39 = some [.i .i64, .s, .i .i64, .i .i64] := by kernel_rfl
theorem info35 : flat Try.prog 5 35 = some [.s, .i .i64, .b] := by kernel_rfl
theorem info9f : flat Try.prog 5 9 = some [.s] := by kernel_rfl

section
variable {H : Type} {enc : TypeId × Value → H} {W : World}
theorem lop_cells {cs : List Value} {sp : Nat → Bool} {held : Bool} (h : CKall enc Try.prog W 0 sp held [.i .i64, .s, .i .i64, .i .i64] cs) : ∃ x : LOp, cs = lCells x ∧ lOk x := by
  obtain _ | ⟨c0, _ | ⟨c1, _ | ⟨c2, _ | ⟨c3, _ | ⟨c4, r⟩⟩⟩⟩⟩ := cs
  · exact h.elim
  · exact h.2.elim
  · exact h.2.2.elim
  · exact h.2.2.2.elim
  · obtain ⟨⟨a, rfl, ha⟩, ⟨s, rfl, hs⟩, ⟨b, rfl, hb⟩, ⟨c, rfl, hc⟩, _⟩ := h
    exact ⟨⟨a, s, b, c⟩, rfl, ha, hs, hb, hc⟩
  · exact h.2.2.2.2.elim
theorem th_cells {cs : List Value} {sp : Nat → Bool} {held : Bool} (h : CKall enc Try.prog W 0 sp held [.s, .i .i64, .b] cs) : ∃ x : LTh, cs = thCells x ∧ thOk x := by
  obtain _ | ⟨c0, _ | ⟨c1, _ | ⟨c2, _ | ⟨c3, r⟩⟩⟩⟩ := cs
  · exact h.elim
  · exact h.2.elim
  · exact h.2.2.elim
  · obtain ⟨⟨s, rfl, hs⟩, ⟨b, rfl, hb⟩, ⟨c, rfl⟩, _⟩ := h
    exact ⟨⟨s, b, c⟩, rfl, hs, hb⟩
  · exact h.2.2.2.elim
theorem str_cells {cs : List Value} {sp : Nat → Bool} {held : Bool} (h : CKall enc Try.prog W 0 sp held [.s] cs) : ∃ x : ByteArray, cs = [.string x] ∧ x.size ≤ maxLen := by
  obtain _ | ⟨c0, _ | ⟨c1, r⟩⟩ := cs
  · exact h.elim
  · obtain ⟨⟨s, rfl, hs⟩, _⟩ := h
    exact ⟨s, rfl, hs⟩
  · exact h.2.elim

theorem lops_open {r : Reach} {b0 : Nat} {v : Value} {d : DataW H} {p : List MemPlace} (hv : Value.okWide Try.prog W r b0 37 v) (h : DataW.Trod enc Try.prog W 0 (fun _ => true) true 37 v d p) :
    ∃ a len cap z, v = .slice a len cap ∧ IsL W a len z := by
  obtain ⟨a, len, cap, rfl, hl, hm, hr⟩ := open_row Try.underlying37 info39 (by kernel_rfl) (by decide) hv h
  obtain ⟨z, hz⟩ := choose_row hr lCells (fun i cs hcs => let ⟨x, e, _⟩ := lop_cells hcs; ⟨x, e⟩)
  refine ⟨a, len, cap, z, rfl, by omega, ?_, ?_⟩
  · rcases hz with h0 | ⟨b, off, _, _, hi⟩
    · intro i hi'; omega
    · intro i hi'
      obtain ⟨x, e, h1⟩ := lop_cells (hi i hi').1
      simp only [lCells, List.cons.injEq, Value.int.injEq, Value.string.injEq, and_true, true_and] at e
      generalize z i = y at e
      obtain ⟨y1, y2, y3, y4⟩ := y
      obtain ⟨x1, x2, x3, x4⟩ := x
      simp only at e
      obtain ⟨rfl, rfl, rfl, rfl⟩ := e
      exact h1
  · rcases hz with h0 | ⟨b, off, ha, hb, hi⟩
    · exact Or.inl h0
    · exact Or.inr ⟨b, off, ha, hb, fun i hi' => (hi i hi').2⟩

theorem ths_open {r : Reach} {b0 : Nat} {v : Value} {d : DataW H} {p : List MemPlace} (hv : Value.okWide Try.prog W r b0 33 v) (h : DataW.Trod enc Try.prog W 0 (fun _ => true) true 33 v d p) :
    ∃ a len cap z, v = .slice a len cap ∧ IsTh W a len z := by
  obtain ⟨a, len, cap, rfl, hl, hm, hr⟩ := open_row Try.underlying33 info35 (by kernel_rfl) (by decide) hv h
  obtain ⟨z, hz⟩ := choose_row hr thCells (fun i cs hcs => let ⟨x, e, _⟩ := th_cells hcs; ⟨x, e⟩)
  refine ⟨a, len, cap, z, rfl, by omega, ?_, ?_⟩
  · rcases hz with h0 | ⟨b, off, _, _, hi⟩
    · intro i hi'; omega
    · intro i hi'
      obtain ⟨x, e, h1⟩ := th_cells (hi i hi').1
      simp only [thCells, List.cons.injEq, Value.int.injEq, Value.string.injEq, Value.bool.injEq, and_true, true_and] at e
      generalize z i = y at e
      obtain ⟨y1, y2, y3⟩ := y
      obtain ⟨x1, x2, x3⟩ := x
      simp only at e
      obtain ⟨rfl, rfl, rfl⟩ := e
      exact h1
  · rcases hz with h0 | ⟨b, off, ha, hb, hi⟩
    · exact Or.inl h0
    · exact Or.inr ⟨b, off, ha, hb, fun i hi' => (hi i hi').2⟩

theorem strs_open {r : Reach} {b0 : Nat} {v : Value} {d : DataW H} {p : List MemPlace} (hv : Value.okWide Try.prog W r b0 22 v) (h : DataW.Trod enc Try.prog W 0 (fun _ => true) true 22 v d p) :
    ∃ a len cap z, v = .slice a len cap ∧ IsStr W a len z := by
  obtain ⟨a, len, cap, rfl, hl, hm, hr⟩ := open_row Try.underlying22 info9f (by kernel_rfl) (by decide) hv h
  have : Inhabited ByteArray := ⟨⟨#[]⟩⟩
  obtain ⟨z, hz⟩ := choose_row hr (fun s : ByteArray => [Value.string s]) (fun i cs hcs => let ⟨x, e, _⟩ := str_cells hcs; ⟨x, e⟩)
  refine ⟨a, len, cap, z, rfl, by omega, ?_, ?_⟩
  · rcases hz with h0 | ⟨b, off, _, _, hi⟩
    · intro i hi'; omega
    · intro i hi'
      obtain ⟨x, e, h1⟩ := str_cells (hi i hi').1
      simp only [List.cons.injEq, Value.string.injEq, and_true] at e
      rw [e]
      exact h1
  · rcases hz with h0 | ⟨b, off, ha, hb, hi⟩
    · exact Or.inl h0
    · exact Or.inr ⟨b, off, ha, hb, fun i hi' => by have := (hi i hi').2 0 (by simp); simpa using this⟩
end
end Go.Proofs.Ytgbcjnejlelndaa
