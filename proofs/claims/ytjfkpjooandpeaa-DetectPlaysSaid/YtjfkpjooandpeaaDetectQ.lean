/- What the detector's list comes to (plain). -/
import Derived.Test.YtjfkpjooandpeaaDetectA
namespace Go.Proofs.Ytjfkpjooandpeaa
open Go Go.RowKit Go.Maps Go.Sort

def Vals (p : Int) (L : DL) : Prop := ∀ q ∈ L, 0 ≤ q.2 ∧ q.2 ≤ p
theorem mem_lput' {L : DL} {k : Lit} {v : Int} {p : Lit × Int} (h : p ∈ lput L k v) : p = (k, v) ∨ p ∈ L := by
  rcases mem_lins.1 h with h | h
  · exact Or.inl h
  · exact Or.inr (List.mem_filter.1 h).1
theorem vals_put {p : Int} (hp : 0 ≤ p) {L : DL} (h : Vals p L) (k : Lit) : Vals p (lput L k p) := by
  intro q hq
  rcases mem_lput' hq with rfl | h'
  · exact ⟨hp, Int.le_refl _⟩
  · exact h q h'
theorem vals_new {p : Int} (hp : 0 ≤ p) (z : Nat → ByteArray) : ∀ k, Vals p (newL p z k)
  | 0 => by intro q hq; cases hq
  | k + 1 => vals_put hp (vals_new hp z k) _
theorem newL_none {p : Int} {z : Nat → ByteArray} {s : ByteArray} : ∀ {k}, (∀ i, i < k → z i ≠ s) → lget (newL p z k) (kT s) = none
  | 0, _ => rfl
  | k + 1, h => by
    show lget (lput (newL p z k) (kT (z k)) p) (kT s) = none
    rw [lget_lput_other (fun e => h k (by omega) (kT_inj e).symm)]
    exact newL_none (fun i hi => h i (by omega))
theorem newL_some {p : Int} {z : Nat → ByteArray} {s : ByteArray} : ∀ {k i}, i < k → z i = s → lget (newL p z k) (kT s) = some p
  | 0, _, h, _ => by omega
  | k + 1, i, h, hi => by
    show lget (lput (newL p z k) (kT (z k)) p) (kT s) = some p
    by_cases e : z k = s
    · rw [e]
      exact lget_lput_same (kT_key s)
    · rw [lget_lput_other (fun e' => e (kT_inj e').symm)]
      have : i ≠ k := fun e' => e (by rw [← e']; exact hi)
      exact newL_some (by omega) hi
theorem tick_len (L : DL) : (tickL L).length = L.length := by simp [tickL]
theorem dec_lo {p n : Int} (h : 0 ≤ n ∧ n ≤ p) : 0 ≤ dec n ∧ dec n ≤ p := by
  unfold dec
  split <;> omega
theorem vals_tick {p : Int} {L : DL} (h : Vals p L) : Vals p (tickL L) := by
  intro q hq
  obtain ⟨q', h', rfl⟩ := List.mem_map.1 hq
  exact dec_lo (h q' h')
theorem tick_get (L : DL) (k : Lit) : lget (tickL L) k = (lget L k).map dec := by
  unfold lget tickL
  rw [List.find?_map, Option.map_map, Option.map_map]
  rfl
theorem dies_len (L : DL) : (keysOf (diesL L)).length ≤ L.length := by
  rw [keysOf_length]
  exact List.length_filter_le _ _
theorem live_len (L : DL) : (keysOf (liveL L)).length ≤ L.length := by
  rw [keysOf_length]
  exact List.length_filter_le _ _
theorem alive_none {L : DL} {k : Lit} (h : lget L k = none) : aliveB L k = false := by
  unfold aliveB
  rw [h]
  rfl

theorem IsStr.keep {w w' : World} {a : Option Addr} {len : Nat} {z : Nat → ByteArray} (h : IsStr w a len z) (hk : Keep NoB w w') : IsStr w' a len z := by
  obtain ⟨h1, h2, h3⟩ := h
  refine ⟨h1, h2, ?_⟩
  rcases h3 with h | ⟨b, off, ha, hb, hc⟩
  · exact Or.inl h
  · exact Or.inr ⟨b, off, ha, Nat.lt_of_lt_of_le hb hk.size, fun i hi => (hk.cell (p := ⟨b, off + i, none⟩) hb (fun h => h)).trans (hc i hi)⟩
theorem IsStr.cell {w : World} {a : Option Addr} {len : Nat} {z : Nat → ByteArray} (h : IsStr w a len z) {i : Nat} (hi : i < len) : ∃ b off, a = some ⟨b, off, none⟩ ∧ b < w.heap.size ∧ w.cell? ⟨b, off + i, none⟩ = some (.string (z i)) := by
  obtain ⟨_, _, h3⟩ := h
  rcases h3 with h | ⟨b, off, ha, hb, hc⟩
  · omega
  · exact ⟨b, off, ha, hb, hc i hi⟩
end Go.Proofs.Ytjfkpjooandpeaa
