/- slices.SortFunc over a slice of the call's own, read as a list. -/
import Derived.Test.YtopgepifakdpfaaDoorLibOwn
import Derived.Shelf.SlSortCmp.InsertionK
namespace Go.Proofs.YtopgepifakdpfaaDoor
open Go Go.RowKit Go.Maps Go.Sort

variable {α : Type} [Inhabited α]

/-- The flat row of a list. -/
theorem flatK_toList {enc : α → List Value} {k : Nat} (henc : ∀ x, (enc x).length = k) (N : List α) : (flatK enc k N.toArray).toList = N.flatMap enc := by
  apply List.ext_getElem?
  intro t
  by_cases ht : t < N.length * k
  · have hk : 0 < k := by rcases Nat.eq_zero_or_pos k with h | h; · subst h; simp at ht
                          · exact h
    have hd : t / k < N.length := (Nat.div_lt_iff_lt_mul hk).2 ht
    have hm : t % k < k := Nat.mod_lt _ hk
    have e1 := flat_get henc N (t / k) (t % k) _ (List.getElem?_eq_getElem hd) hm
    have e2 : t / k * k + t % k = t := by rw [Nat.mul_comm]; exact Nat.div_add_mod t k
    rw [e2] at e1
    rw [e1]
    have e3 := get_flatK enc k N.toArray t (by simpa using ht)
    have hs : t < (flatK enc k N.toArray).size := by rw [size_flatK]; simpa using ht
    rw [getElem!_pos (flatK enc k N.toArray) t hs] at e3
    rw [Array.getElem?_toList, Array.getElem?_eq_getElem hs, e3]
    have hd' : t / k < N.toArray.size := by simpa using hd
    rw [getElem!_pos N.toArray _ hd']
    have hm' : t % k < (enc N.toArray[t / k]).length := by rw [henc]; exact hm
    rw [getElem!_pos (enc N.toArray[t / k]) (t % k) hm']
    simp
  · rw [List.getElem?_eq_none (by simp; omega), List.getElem?_eq_none (by rw [flat_len henc]; omega)]

theorem Own.holdsK {w : World} {B : Nat} {e : TypeId} {k : Nat} {enc : α → List Value} {g cap : Nat} {N : List α} (henc : ∀ x, (enc x).length = k) (h : Own w B e k enc (.slice (Option.some ⟨g, 0, none⟩) N.length cap) N) : HoldsK enc k w g 0 N.toArray := by
  rcases h.2 with ⟨h', _⟩ | ⟨g', cap', cur, h', hb, hg, hnc, hcm, hcs, htake⟩
  · cases h'
  · simp only [Value.slice.injEq, Option.some.injEq, Addr.mk.injEq, and_true, true_and] at h'
    obtain ⟨rfl, rfl⟩ := h'
    intro t ht
    rw [size_flatK] at ht
    have ht' : t < N.length * k := by simpa using ht
    refine ⟨?_, by rw [Nat.zero_add]; exact blk_free hg t⟩
    rw [Nat.zero_add, blk_cell hg]
    have hs : t < (flatK enc k N.toArray).size := by rw [size_flatK]; exact ht
    rw [getElem!_pos (flatK enc k N.toArray) t hs]
    have e1 : (N.flatMap enc)[t]? = Option.some (flatK enc k N.toArray)[t] := by
      rw [← flatK_toList henc, Array.getElem?_toList, Array.getElem?_eq_getElem hs]
    rw [← htake, List.getElem?_take_of_lt ht'] at e1
    simpa using e1

theorem grow_old (w : World) (os : Array Obj) {b : Nat} (h : b < w.heap.size) : (grow w os).heap[b]? = w.heap[b]? := by
  unfold grow
  simp only [Array.getElem?_append]
  rw [if_pos h]

/-- What the sort leaves: the same slice, that reads as the sorted list; nothing else of what was there has turned. -/
theorem Own.sorted {w : World} {B : Nat} {e : TypeId} {k : Nat} {enc : α → List Value} {g cap : Nat} {N : List α} (henc : ∀ x, (enc x).length = k) (h : Own w B e k enc (.slice (Option.some ⟨g, 0, none⟩) N.length cap) N)
    {d' : Array α} (hd : d'.size = N.length) (n : Nat) (os : Array Obj) : Own (sortWorldK enc k w g 0 n d' os) B e k enc (.slice (Option.some ⟨g, 0, none⟩) N.length cap) d'.toList ∧ Keep (OneB g) w (sortWorldK enc k w g 0 n d' os) := by
  have hl : d'.toList.length = N.length := by simpa using hd
  have hF : (flatK enc k d').toList = d'.toList.flatMap enc := by
    have := flatK_toList henc d'.toList
    simpa using this
  rcases h.2 with ⟨h', _⟩ | ⟨g', cap', cur, h', hb, hg, hnc, hcm, hcs, htake⟩
  · cases h'
  · simp only [Value.slice.injEq, Option.some.injEq, Addr.mk.injEq, and_true, true_and] at h'
    obtain ⟨rfl, rfl⟩ := h'
    have hlt := blk_lt hg
    have hm : (mapBlock (Sort.ahead w n) g (putCells id 0 (flatK enc k d'))).heap[g]? = Option.some (.cells (putCells id 0 (flatK enc k d') cur) e (0, 0)) := by
      unfold mapBlock Sort.ahead
      simp only [Array.getElem?_modify, if_true, hg, Option.map_some, onCells]
    have hsz : (mapBlock (Sort.ahead w n) g (putCells id 0 (flatK enc k d'))).heap.size = w.heap.size := by simp [mapBlock, Sort.ahead]
    have hle : N.length * k ≤ cur.size := by rw [hcs]; exact Nat.mul_le_mul_right k hnc
    refine ⟨⟨by rw [hl, flat_len henc, hl], .inr ⟨g, cap, putCells id 0 (flatK enc k d') cur, by rw [hl], hb, ?_, by rw [hl]; exact hnc, hcm, by simp [putCells]; exact hcs, ?_⟩⟩, ?_⟩
    · exact (grow_old _ os (by show g < (mapBlock (Sort.ahead w n) g (putCells id 0 (flatK enc k d'))).heap.size; rw [hsz]; exact hlt)).trans hm
    · rw [← hF, hl]
      apply List.ext_getElem?
      intro t
      rw [List.getElem?_take]
      by_cases ht : t < N.length * k
      · rw [if_pos ht]
        have hs : t < (flatK enc k d').size := by rw [size_flatK, hd]; exact ht
        simp only [putCells, Array.toList_mapIdx, List.getElem?_mapIdx, Array.getElem?_toList]
        rw [Array.getElem?_eq_getElem (show t < cur.size by omega), Array.getElem?_eq_getElem hs]
        simp only [Option.map_some, Nat.zero_le, Nat.zero_add, hs, and_self, if_true, Nat.sub_zero, id]
        rw [getElem!_pos (flatK enc k d') t hs]
      · rw [if_neg ht, List.getElem?_eq_none]
        rw [Array.length_toList, size_flatK, hd]
        omega
    · refine ⟨rfl, rfl, rfl, ?_, fun b hb hne => ?_⟩
      · have : w.heap.size ≤ (mapBlock (Sort.ahead w n) g (putCells id 0 (flatK enc k d'))).heap.size := by rw [hsz]; exact Nat.le_refl _
        refine Nat.le_trans this ?_
        simp [sortWorldK, putRowK, putRow, grow]
      · refine (grow_old _ os (by show b < (mapBlock (Sort.ahead w n) g (putCells id 0 (flatK enc k d'))).heap.size; rw [hsz]; exact hb)).trans ?_
        show (mapBlock (Sort.ahead w n) g (putCells id 0 (flatK enc k d'))).heap[b]? = _
        have : ¬ g = b := fun e => hne e.symm
        simp [mapBlock, Sort.ahead, Array.getElem?_modify, this]

/-- A list that is strictly rising by what the sort compares is the one sorted list of its elements. -/
theorem sorted_eq {lt : α → α → Bool} {N M : List α} {d' : Array α} (hp : PermIn 0 N.toArray.size N.toArray d') (hs : SortedIn lt 0 N.toArray.size d') (hNM : N.Perm M) (hM : M.Pairwise (fun x y => lt x y = true)) (hanti : ∀ x y, lt x y = true → lt y x = true → False) : d'.toList = M := by
  obtain ⟨hsz, _, hperm⟩ := hp
  have hP : d'.toList.Perm M := by
    have e1 : d'.extract 0 N.toArray.size = d' := by rw [← hsz]; simp
    have e2 : N.toArray.extract 0 N.toArray.size = N.toArray := by simp
    rw [e1, e2] at hperm
    exact (by simpa using hperm : d'.toList.Perm N).trans hNM
  have hS : d'.toList.Pairwise (fun x y => lt y x = false) := by
    rw [List.pairwise_iff_getElem]
    intro i j hi hj hij
    have hi' : i < d'.size := by simpa using hi
    have hj' : j < d'.size := by simpa using hj
    have := hs i j (Nat.zero_le _) hij (by rw [← hsz]; exact hj')
    rw [getElem!_pos d' i hi', getElem!_pos d' j hj'] at this
    simpa using this
  have hM' : M.Pairwise (fun x y => lt y x = false) := hM.imp (fun {x y} h => by
    cases hyx : lt y x
    · rfl
    · exact (hanti x y h hyx).elim)
  refine hP.eq_of_pairwise (fun x y hx hy h1 h2 => ?_) hS hM'
  obtain ⟨i, hi⟩ := List.getElem?_of_mem (hP.subset hx)
  obtain ⟨j, hj⟩ := List.getElem?_of_mem hy
  obtain ⟨hi1, hi2⟩ := List.getElem?_eq_some_iff.1 hi
  obtain ⟨hj1, hj2⟩ := List.getElem?_eq_some_iff.1 hj
  rw [List.pairwise_iff_getElem] at hM
  rcases Nat.lt_trichotomy i j with h | h | h
  · have := hM i j hi1 hj1 h
    rw [hi2, hj2, h2] at this
    cases this
  · subst h
    rw [← hi2, ← hj2]
  · have := hM j i hj1 hi1 h
    rw [hi2, hj2, h1] at this
    cases this
end Go.Proofs.YtopgepifakdpfaaDoor
