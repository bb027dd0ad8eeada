/- The script of DedupePlays, opened. -/
import Derived.Test.YtlglnpokfmdpaaaDedupePlaysQ
import Derived.Test.YtlglnpokfmdpaaaDedupeLoadsO
namespace Go.Proofs.Ytlglnpokfmdpaaa
open Go Go.RowKit Go.Maps Go.ChangeShapes Go.WideShapes

theorem flat48 : flat Try.prog 6 48 = some [.i .i64, .i .i64, .i .i64, .i .i64, .i .i64, .sl 41] := by kernel_rfl

section
variable {H : Type} {enc : TypeId × Value → H} {W : World}

theorem se_of_ck {v : Value} {sp : Nat → Bool} {held : Bool} (h : CKok enc Try.prog W 0 sp held (.sl 41) v) : ∃ a n c z, v = .slice a n c ∧ SeA W a n z := by
  obtain ⟨a, len, cap, rfl, hl, hm, hr⟩ := row_of_ck flat41 (by kernel_rfl) (by decide) h
  have : Inhabited SE := ⟨(0, 0, 0, 0)⟩
  obtain ⟨z, hz⟩ := choose_row hr encSeen (fun i cs hcs => let ⟨x, e, _⟩ := seen_cells hcs; ⟨x, e⟩)
  refine ⟨a, len, cap, z, rfl, ⟨?_, ?_⟩⟩
  · rcases hz with h0 | ⟨b, off, _, _, hi⟩
    · intro i hi'; omega
    · intro i hi'
      obtain ⟨x, e, h1⟩ := seen_cells (hi i hi').1
      simp only [encSeen, List.cons.injEq, Value.int.injEq, and_true, true_and] at e
      rw [e.1]
      exact h1
  · rcases hz with h0 | ⟨b, off, ha, hb, hi⟩
    · exact Or.inl h0
    · refine Or.inr ⟨b, off, ha, hb, fun i hi' => ?_⟩
      have := (hi i hi').2
      exact ⟨by simpa [encSeen] using this 0 (by decide), by simpa [encSeen] using this 1 (by decide), by simpa [encSeen] using this 2 (by decide), by simpa [encSeen] using this 3 (by decide)⟩

theorem dop_cells {cs : List Value} {sp : Nat → Bool} {held : Bool} (h : CKall enc Try.prog W 0 sp held [.i .i64, .i .i64, .i .i64, .i .i64, .i .i64, .sl 41] cs) : ∃ x : DOp, cs = dCells x ∧ dOk W x := by
  obtain _ | ⟨c0, _ | ⟨c1, _ | ⟨c2, _ | ⟨c3, _ | ⟨c4, _ | ⟨c5, _ | ⟨c6, r⟩⟩⟩⟩⟩⟩⟩ := cs
  · exact h.elim
  · exact h.2.elim
  · exact h.2.2.elim
  · exact h.2.2.2.elim
  · exact h.2.2.2.2.elim
  · exact h.2.2.2.2.2.elim
  · obtain ⟨⟨k, rfl, h0⟩, ⟨s, rfl, h1⟩, ⟨r, rfl, h2⟩, ⟨e, rfl, h3⟩, ⟨i, rfl, h4⟩, h6, _⟩ := h
    obtain ⟨a, n, c, z, e, hr⟩ := se_of_ck h6
    subst e
    exact ⟨⟨k, s, r, _, i, a, n, c, z⟩, rfl, h1, hr⟩
  · exact h.2.2.2.2.2.2.elim

instance : Inhabited DOp := ⟨⟨0, 0, 0, 0, 0, none, 0, 0, fun _ => (0, 0, 0, 0)⟩⟩

theorem dops_open {r : Reach} {b0 : Nat} {v : Value} {d : DataW H} {p : List MemPlace} (hv : Value.okWide Try.prog W r b0 43 v) (h : DataW.Trod enc Try.prog W 0 (fun _ => true) true 43 v d p) :
    ∃ a len cap z, v = .slice a len cap ∧ IsD W a len z := by
  obtain ⟨a, len, cap, rfl, hl, hm, hr⟩ := open_row Try.underlying43 flat48 (by kernel_rfl) (by decide) hv h
  have : ∀ i, ∃ x : DOp, i < len → dOk W x ∧ ∃ b off, a = some ⟨b, off, none⟩ ∧ b < W.heap.size ∧ ∀ j, j < 6 → W.cell? ⟨b, off + i * 6 + j, none⟩ = (dCells x)[j]? := by
    intro i
    by_cases hi : i < len
    · rcases hr with h0 | ⟨b, off, ha, hb, hc⟩
      · omega
      · obtain ⟨cs, h1, h2, h3⟩ := hc i hi
        obtain ⟨x, rfl, hx⟩ := dop_cells h1
        exact ⟨x, fun _ => ⟨hx, b, off, ha, hb, fun j hj => h3 j (by simpa using hj)⟩⟩
    · exact ⟨default, fun h => absurd h hi⟩
  have hch : ∃ z : Nat → DOp, ∀ i, i < len → dOk W (z i) ∧ ∃ b off, a = some ⟨b, off, none⟩ ∧ b < W.heap.size ∧ ∀ j, j < 6 → W.cell? ⟨b, off + i * 6 + j, none⟩ = (dCells (z i))[j]? := ⟨fun i => Classical.choose (this i), fun i => Classical.choose_spec (this i)⟩
  obtain ⟨z, hz⟩ := hch
  refine ⟨a, len, cap, z, rfl, by omega, fun i hi => (hz i hi).1, ?_⟩
  by_cases h0 : len = 0
  · exact Or.inl h0
  · right
    obtain ⟨_, b, off, ha, hb, _⟩ := hz 0 (by omega)
    refine ⟨b, off, ha, hb, fun i hi j hj => ?_⟩
    obtain ⟨_, b', off', ha', _, hc'⟩ := hz i hi
    rw [ha] at ha'
    cases ha'
    exact hc' j hj
end
end Go.Proofs.Ytlglnpokfmdpaaa
