/- slices.Sort over a slice of texts of the call's own. -/
import Derived.Test.YtopgepifakdpfaaDoorLibSet
import Derived.Sort.KeysCollected
import Derived.Sort.Grow
namespace Go.Proofs.YtopgepifakdpfaaDoor
open Go Go.RowKit Go.Maps Go.Sort

def bs (x : ByteArray) : List UInt8 := x.data.toList
theorem bs_mk (x : ByteArray) : (⟨(bs x).toArray⟩ : ByteArray) = x := by
  obtain ⟨⟨x⟩⟩ := x
  rfl
theorem bs_inj {x y : ByteArray} (h : bs x = bs y) : x = y := by rw [← bs_mk x, h, bs_mk]

theorem Own.holdsS {w : World} {B : Nat} {e : TypeId} {g cap : Nat} {N : List ByteArray} (h : Own w B e 1 cS (.slice (Option.some ⟨g, 0, none⟩) N.length cap) N) : Holds encStr w g 0 (N.map bs).toArray := by
  intro j hj
  have hj' : j < N.length := by simpa using hj
  obtain ⟨g', hv, _, _, h1, h2⟩ := h.cell1 cS_len (List.getElem?_eq_getElem hj') rfl
  cases hv
  rw [Nat.zero_add]
  refine ⟨?_, h2⟩
  rw [h1, getElem!_pos _ j hj]
  simp [encStr, bs_mk]

theorem grow_oldS (w : World) (os : Array Obj) {b : Nat} (h : b < w.heap.size) : (grow w os).heap[b]? = w.heap[b]? := by
  unfold grow
  simp only [Array.getElem?_append]
  rw [if_pos h]

theorem Own.sortedS {w : World} {B : Nat} {e : TypeId} {g cap : Nat} {N M : List ByteArray} (h : Own w B e 1 cS (.slice (Option.some ⟨g, 0, none⟩) N.length cap) N) (hl : M.length = N.length) (n : Nat) (os : Array Obj) :
    Own (grow (putRow encStr (Sort.ahead w n) g 0 (M.map bs).toArray) os) B e 1 cS (.slice (Option.some ⟨g, 0, none⟩) N.length cap) M ∧ Keep (OneB g) w (grow (putRow encStr (Sort.ahead w n) g 0 (M.map bs).toArray) os) := by
  rcases h.2 with ⟨h', _⟩ | ⟨g', cap', cur, h', hb, hg, hnc, hcm, hcs, htake⟩
  · cases h'
  · simp only [Value.slice.injEq, Option.some.injEq, Addr.mk.injEq, and_true, true_and] at h'
    obtain ⟨rfl, rfl⟩ := h'
    have hlt := blk_lt hg
    have hm : (mapBlock (Sort.ahead w n) g (putCells encStr 0 (M.map bs).toArray)).heap[g]? = Option.some (.cells (putCells encStr 0 (M.map bs).toArray cur) e (0, 0)) := by
      unfold mapBlock Sort.ahead
      simp only [Array.getElem?_modify, if_true, hg, Option.map_some, onCells]
    have hsz : (mapBlock (Sort.ahead w n) g (putCells encStr 0 (M.map bs).toArray)).heap.size = w.heap.size := by simp [mapBlock, Sort.ahead]
    refine ⟨⟨by rw [flat_len cS_len], .inr ⟨g, cap, putCells encStr 0 (M.map bs).toArray cur, by rw [hl], hb, ?_, by rw [hl]; exact hnc, hcm, by simp [putCells]; simpa using hcs, ?_⟩⟩, ?_⟩
    · exact (grow_oldS _ os (by show g < (mapBlock (Sort.ahead w n) g (putCells encStr 0 (M.map bs).toArray)).heap.size; rw [hsz]; exact hlt)).trans hm
    · apply List.ext_getElem?
      intro t
      rw [List.getElem?_take]
      by_cases ht : t < M.length * 1
      · have ht' : t < M.length := by omega
        rw [if_pos ht]
        have hf := flat_get cS_len M t 0 _ (List.getElem?_eq_getElem ht') (by decide)
        simp only [Nat.mul_one, Nat.add_zero] at hf
        rw [hf]
        have hs : t < (M.map bs).toArray.size := by simpa using ht'
        simp only [putCells, Array.toList_mapIdx, List.getElem?_mapIdx, Array.getElem?_toList]
        rw [Array.getElem?_eq_getElem (show t < cur.size by omega)]
        simp only [Option.map_some, Nat.zero_le, Nat.zero_add, hs, and_self, if_true, Nat.sub_zero]
        rw [getElem!_pos _ t hs]
        simp [encStr, bs_mk, cS]
      · rw [if_neg ht, List.getElem?_eq_none]
        rw [flat_len cS_len]
        omega
    · refine ⟨rfl, rfl, rfl, ?_, fun b hb hne => ?_⟩
      · have : w.heap.size ≤ (mapBlock (Sort.ahead w n) g (putCells encStr 0 (M.map bs).toArray)).heap.size := by rw [hsz]; exact Nat.le_refl _
        refine Nat.le_trans this ?_
        simp [putRow, grow]
      · refine (grow_oldS _ os (by show b < (mapBlock (Sort.ahead w n) g (putCells encStr 0 (M.map bs).toArray)).heap.size; rw [hsz]; exact hb)).trans ?_
        show (mapBlock (Sort.ahead w n) g (putCells encStr 0 (M.map bs).toArray)).heap[b]? = _
        have : ¬ g = b := fun e => hne e.symm
        simp [mapBlock, Sort.ahead, Array.getElem?_modify, this]

/-- A strictly rising list is the one that the sort leaves. -/
theorem sortS_eq {N M : List ByteArray} (hp : N.Perm M) (hr : M.Pairwise (fun x y => bs x < bs y)) : (N.map bs).mergeSort (fun x y => decide (x ≤ y)) = M.map bs := by
  have tr : ∀ a b c : List UInt8, leB a b = true → leB b c = true → leB a c = true := fun a b c h1 h2 => by simp only [leB, decide_eq_true_eq] at *; exact List.le_trans h1 h2
  have to : ∀ a b : List UInt8, (leB a b || leB b a) = true := fun a b => by simp only [leB, Bool.or_eq_true, decide_eq_true_eq]; exact List.le_total a b
  refine List.Perm.eq_of_pairwise (le := fun a b => leB a b = true) (fun a b _ _ h1 h2 => ?_) (List.pairwise_mergeSort tr to _) ?_ ((List.mergeSort_perm _ leB).trans (hp.map bs))
  · simp only [leB, decide_eq_true_eq] at h1 h2
    exact List.le_antisymm h1 h2
  · rw [List.pairwise_map]
    exact hr.imp (fun {x y} h => by simp only [leB, decide_eq_true_eq]; exact List.le_of_lt h)

theorem before_lt : ∀ {a b : List UInt8}, bytesBefore a b = true → a < b
  | [], [], h => by simp [bytesBefore] at h
  | [], _ :: _, _ => by simp
  | _ :: _, [], h => by simp [bytesBefore] at h
  | x :: r, y :: s, h => by
    simp only [bytesBefore, Bool.or_eq_true, Bool.and_eq_true, decide_eq_true_eq, beq_iff_eq] at h
    rw [List.cons_lt_cons_iff]
    rcases h with h | ⟨rfl, h⟩
    · exact Or.inl h
    · exact Or.inr ⟨rfl, before_lt h⟩
end Go.Proofs.YtopgepifakdpfaaDoor
