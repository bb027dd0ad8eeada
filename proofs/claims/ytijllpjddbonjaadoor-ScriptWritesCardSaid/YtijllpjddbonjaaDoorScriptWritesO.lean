/- The argument of ScriptWrites, opened. -/
import Derived.Test.YtijllpjddbonjaaDoorScriptWritesW
import Derived.Test.YtijllpjddbonjaaDoorScriptO
namespace Go.Proofs.YtijllpjddbonjaaDoor
open Go Go.RowKit Go.Maps Go.ChangeShapes Go.WideShapes

theorem flat30 : flat Tryd.prog 5 30 = some [.i .i64, .i .i64, .i .i64, .i .i64] := by kernel_rfl
section
variable {H : Type} {enc : TypeId × Value → H} {W : World}
theorem sop_cells {cs : List Value} {sp : Nat → Bool} {held : Bool} (h : CKall enc Tryd.prog W 0 sp held [.i .i64, .i .i64, .i .i64, .i .i64] cs) : ∃ x : SOp, cs = encOp x ∧ I64 x.1 ∧ I64 x.2.1 ∧ I64 x.2.2.1 ∧ I64 x.2.2.2 := by
  obtain _ | ⟨c0, _ | ⟨c1, _ | ⟨c2, _ | ⟨c3, _ | ⟨c4, r⟩⟩⟩⟩⟩ := cs
  · exact h.elim
  · exact h.2.elim
  · exact h.2.2.elim
  · exact h.2.2.2.elim
  · obtain ⟨⟨a, rfl, ha⟩, ⟨b, rfl, hb⟩, ⟨c, rfl, hc⟩, ⟨d, rfl, hd⟩, _⟩ := h
    exact ⟨(a, b, c, d), rfl, bounds_i64 ha, bounds_i64 hb, bounds_i64 hc, bounds_i64 hd⟩
  · exact h.2.2.2.2.elim
theorem sops_open {r : Reach} {b0 : Nat} {v : Value} {d : DataW H} {p : List MemPlace} (hv : Value.okWide Tryd.prog W r b0 26 v) (h : DataW.Trod enc Tryd.prog W 0 (fun _ => true) true 26 v d p) :
    ∃ a len cap z, v = .slice a len cap ∧ IsOps W a len z := by
  obtain ⟨a, len, cap, rfl, hl, hm, hr⟩ := open_row Tryd.underlying26 flat30 (by kernel_rfl) (by decide) hv h
  have : Inhabited SOp := ⟨(0, 0, 0, 0)⟩
  obtain ⟨z, hz⟩ := choose_row hr encOp (fun i cs hcs => let ⟨x, e, _⟩ := sop_cells hcs; ⟨x, e⟩)
  refine ⟨a, len, cap, z, rfl, by omega, ?_, ?_⟩
  · rcases hz with h0 | ⟨b, off, _, _, hi⟩
    · intro i hi'; omega
    · intro i hi'
      obtain ⟨x, e, h1⟩ := sop_cells (hi i hi').1
      simp only [encOp, List.cons.injEq, Value.int.injEq, and_true, true_and] at e
      obtain ⟨e0, e1, e2, e3⟩ := e
      rw [e0, e1, e2, e3]
      exact h1
  · rcases hz with h0 | ⟨b, off, ha, hb, hi⟩
    · exact Or.inl h0
    · refine Or.inr ⟨b, off, ha, hb, fun i hi' => ?_⟩
      have := (hi i hi').2
      exact ⟨by simpa [encOp] using this 0 (by decide), by simpa [encOp] using this 1 (by decide), by simpa [encOp] using this 2 (by decide), by simpa [encOp] using this 3 (by decide)⟩
end
end Go.Proofs.YtijllpjddbonjaaDoor
