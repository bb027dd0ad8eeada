/- The arguments of the statements of chapter 10, opened. -/
import Derived.Test.YtopgepifakdpfaaDoorLibStrs
import Derived.Test.YtopgepifakdpfaaDoorLibRead
import Derived.Test.YtopgepifakdpfaaDoorProg
import Derived.SliceStrings
namespace Go.Proofs.YtopgepifakdpfaaDoor
open Go Go.RowKit Go.Maps Go.ChangeShapes Go.WideShapes
set_option maxRecDepth 100000

theorem flat9 : flat Tryd.prog 5 9 = some [.s] := by kernel_rfl
section
variable {H : Type} {enc : TypeId × Value → H} {W : World}
theorem str_cells {cs : List Value} {sp : Nat → Bool} {held : Bool} (h : CKall enc Tryd.prog W 0 sp held [.s] cs) : ∃ x : ByteArray, cs = [.string x] ∧ x.size ≤ maxLen := by
  obtain _ | ⟨c0, _ | ⟨c1, r⟩⟩ := cs
  · exact h.elim
  · obtain ⟨⟨s, rfl, hs⟩, _⟩ := h
    exact ⟨s, rfl, hs⟩
  · exact h.2.elim
theorem strs_weight {e : TypeId} : ∀ {ss : List ByteArray} {s : ByteArray}, s ∈ ss → s.size ∈ DataW.weightsAll Tryd.prog e (strs (H := H) ss)
  | x :: ss, s, h => by
    simp only [strs, List.map_cons, DataW.weightsAll, List.mem_append]
    rcases List.mem_cons.1 h with rfl | h
    · left
      simp [DataW.weights]
    · exact Or.inr (strs_weight h)
theorem reach_eq : reachBytes = 140737488351232 := by decide
theorem strs_sized {r : Reach} {b0 : Nat} {v : Value} {d : DataW H} {p : List MemPlace} (hv : Value.okWide Tryd.prog W r b0 22 v) (h : DataW.Trod enc Tryd.prog W 0 (fun _ => true) true 22 v d p)
    {ts : List TypeId} {ds : List (DataW H)} (hsz : (DataW.weightsEach Tryd.prog ts ds).all (· ≤ reachBytes) = true) {j : Nat} (hj : ts[j]? = some 22) (hd : ds[j]? = some d) :
    ∃ a len cap z, v = .slice a len cap ∧ RdS W a ((List.range len).map z) ∧ len ≤ 9223372036854775807 ∧ ∀ i, i < len → (z i).size ≤ 140737488355328 := by
  obtain ⟨a, len, cap, rfl, hl, hm, hr⟩ := open_row Tryd.underlying22 flat9 (by kernel_rfl) (by decide) hv h
  have : Inhabited ByteArray := ⟨⟨#[]⟩⟩
  obtain ⟨z, hz⟩ := choose_row hr (fun s : ByteArray => [Value.string s]) (fun i cs hcs => let ⟨x, e, _⟩ := str_cells hcs; ⟨x, e⟩)
  have hm' : len ≤ 9223372036854775807 := by unfold maxLen at hm; omega
  have hz' : len = 0 ∨ ∃ b off, a = some ⟨b, off, none⟩ ∧ b < W.heap.size ∧ ∀ i, i < len → W.cell? ⟨b, off + i, none⟩ = some (.string (z i)) := by
    rcases hz with h0 | ⟨b, off, ha, hb, hi⟩
    · exact Or.inl h0
    · exact Or.inr ⟨b, off, ha, hb, fun i hi' => by have := (hi i hi').2 0 (by simp); simpa using this⟩
  refine ⟨a, len, cap, z, rfl, rds_of hz', hm', ?_⟩
  obtain ⟨fuel, hx⟩ := h
  rcases open_strings Tryd.underlying22 Tryd.underlying9 (by kernel_rfl) hx with ⟨hcs, _⟩ | ⟨a', len', cap', ss, hcs, _, h1, h2, h3, hx', h5, h6⟩
  · simp [Value.cells] at hcs
    intro i hi
    omega
  · simp [Value.cells] at hcs
    obtain ⟨rfl, rfl, rfl⟩ := hcs
    injection hx' with hd' _
    subst hd'
    intro i hi
    rcases hz' with h0 | ⟨b, off, ha, hb, hc⟩
    · omega
    · cases ha
      have hss : i < ss.length := by rw [h3]; simp; omega
      have e1 := h5 i hss
      have e2 := hc i hi
      have hadd : (⟨b, off, none⟩ : Addr).add i = ⟨b, off + i, none⟩ := by unfold Addr.add; split <;> simp_all
      rw [hadd, e2] at e1
      simp only [Option.some.injEq, Value.string.injEq] at e1
      rw [List.getD_eq_getElem?_getD, List.getElem?_eq_getElem hss] at e1
      simp only [Option.getD_some] at e1
      have hmem : z i ∈ ss.take len := by
        rw [e1]
        exact List.mem_take_iff_getElem.2 ⟨i, by omega, rfl⟩
      have hw : (z i).size ∈ DataW.weights Tryd.prog 22 (.slice (strs (H := H) (ss.take len)) (strs (ss.drop len))) := by
        simp only [DataW.weights, Tryd.underlying22, List.mem_cons, List.mem_append]
        exact Or.inr (Or.inl (strs_weight hmem))
      have := List.all_eq_true.1 hsz _ (DataW.weights_mem_each hj hd _ hw)
      simp only [decide_eq_true_eq] at this
      have := reach_eq
      omega
end
end Go.Proofs.YtopgepifakdpfaaDoor
