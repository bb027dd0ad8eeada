/- A slice of texts that is read as a list, of whatever row. -/
import Derived.Test.YtopgepifakdpfaaDoorLibSet
namespace Go.Proofs.YtopgepifakdpfaaDoor
open Go Go.RowKit Go.Maps

def RdS (w : World) (a : Option Addr) (N : List ByteArray) : Prop :=
  N = [] ∨ ∃ b off, a = some ⟨b, off, none⟩ ∧ b < w.heap.size ∧ ∀ i x, N[i]? = some x → w.cell? ⟨b, off + i, none⟩ = some (.string x)
section
variable {w w' : World} {a : Option Addr} {N : List ByteArray}
theorem RdS.keep {S : Nat → Prop} (h : RdS w a N) (hk : Keep S w w') (hS : ∀ b off, a = some ⟨b, off, none⟩ → ¬ S b) : RdS w' a N := by
  rcases h with h | ⟨b, off, e, hb, hc⟩
  · exact Or.inl h
  · exact Or.inr ⟨b, off, e, Nat.lt_of_lt_of_le hb hk.size, fun i x hx => hk.some (hc i x hx) (hS b off e)⟩
theorem RdS.keep0 (h : RdS w a N) (hk : Keep NoB w w') : RdS w' a N := h.keep hk (fun _ _ _ h => h)
theorem RdS.at (h : RdS w a N) {i : Nat} {x : ByteArray} (hx : N[i]? = some x) : ∃ b off, a = some ⟨b, off, none⟩ ∧ b < w.heap.size ∧ w.cell? ⟨b, off + i, none⟩ = some (.string x) := by
  rcases h with h | ⟨b, off, e, hb, hc⟩
  · subst h; simp at hx
  · exact ⟨b, off, e, hb, hc i x hx⟩
theorem rds_own {B : Nat} {e : TypeId} {c : Nat} (h : Own w B e 1 cS (.slice a N.length c) N) : RdS w a N := by
  by_cases hn : N = []
  · exact Or.inl hn
  · obtain ⟨g, rfl, _, hg⟩ := h.some hn
    refine Or.inr ⟨g, 0, rfl, hg, fun i x hx => ?_⟩
    obtain ⟨g', c', hv, _, _, hc⟩ := h.cells cS_len hx
    cases hv
    have := hc 0 _ rfl
    simpa using this
theorem rds_of {len : Nat} {z : Nat → ByteArray} (h : len = 0 ∨ ∃ b off, a = some ⟨b, off, none⟩ ∧ b < w.heap.size ∧ ∀ i, i < len → w.cell? ⟨b, off + i, none⟩ = some (.string (z i))) : RdS w a ((List.range len).map z) := by
  rcases h with h | ⟨b, off, e, hb, hc⟩
  · subst h; exact Or.inl rfl
  · refine Or.inr ⟨b, off, e, hb, fun i x hx => ?_⟩
    rw [List.getElem?_map] at hx
    obtain ⟨j, hj, rfl⟩ := Option.map_eq_some_iff.1 hx
    obtain ⟨hl, e2⟩ := List.getElem?_eq_some_iff.1 hj
    rw [List.getElem_range] at e2
    subst e2
    exact hc _ (by simpa using hl)
end
end Go.Proofs.YtopgepifakdpfaaDoor
