/- What rounds of swaps of neighbours come to: the plain part of the reference's Nodes. -/
import Derived.Test.YtopgepifakdpfaaDoorRingOrderQ
namespace Go.Proofs.YtopgepifakdpfaaDoor
open Go Go.RowKit Go.Maps Go.Sort

/-- Not above. -/
def leB (x y : BA) : Prop := ¬ bs y < bs x
theorem leB_refl (x : BA) : leB x x := bs_irr x
theorem leB_trans {x y z : BA} (h1 : leB x y) (h2 : leB y z) : leB x z := by
  unfold leB at *
  exact List.not_lt.2 (List.le_trans (List.not_lt.1 h1) (List.not_lt.1 h2))
theorem leB_of_lt {x y : BA} (h : bs x < bs y) : leB x y := bs_asym h
/-- Behind i rounds: the last i are in their places. -/
def Bub (n i : Nat) (M : List BA) : Prop := ∀ p q x y, p < q → q < n → n ≤ q + i → M[p]? = some x → M[q]? = some y → leB x y
/-- Within a round, at k. -/
structure Bin (n i k : Nat) (M : List BA) : Prop where
  done : Bub n i M
  top : ∀ p x y, p < k → M[p]? = some x → M[k]? = some y → leB x y
  cut : n ≤ k + i + 1 → ∀ p x y, p + i + 1 < n → M[p]? = some x → M[n - 1 - i]? = some y → leB x y
theorem Bub.start (n : Nat) (M : List BA) : Bub n 0 M := fun p q x y _ hq hn => by omega
theorem Bin.start {n i : Nat} {M : List BA} (h : Bub n i M) (hi : i < n) (h1 : n ≤ i + 1 → n = 1 ∨ True) : Bin n i 0 M :=
  ⟨h, fun p x y hp => by omega, fun hn p x y hp => by omega⟩
theorem Bin.stay {n i k : Nat} {M : List BA} (h : Bin n i k M) (hk : k + 1 < n) {x y : BA} (hx : M[k]? = some x) (hy : M[k + 1]? = some y) (hle : leB x y) : Bin n i (k + 1) M := by
  have top : ∀ p u v, p < k + 1 → M[p]? = some u → M[k + 1]? = some v → leB u v := by
    intro p u v hp hu hv
    rw [hy] at hv
    cases hv
    by_cases e : p = k
    · subst e
      rw [hx] at hu
      cases hu
      exact hle
    · exact leB_trans (h.top p u x (by omega) hu hx) hle
  refine ⟨h.done, top, fun hn p u v hp hu hv => ?_⟩
  by_cases hn' : n ≤ k + i + 1
  · exact h.cut hn' p u v hp hu hv
  · have e : n - 1 - i = k + 1 := by omega
    rw [e] at hv
    exact top p u v (by omega) hu hv
theorem get_swap {M : List BA} {k : Nat} {x y : BA} (hx : M[k]? = some x) (hy : M[k + 1]? = some y) (q : Nat) :
    ((M.set k y).set (k + 1) x)[q]? = if q = k then some y else if q = k + 1 then some x else M[q]? := by
  obtain ⟨h1, _⟩ := List.getElem?_eq_some_iff.1 hx
  obtain ⟨h2, _⟩ := List.getElem?_eq_some_iff.1 hy
  rw [List.getElem?_set]
  by_cases e1 : k + 1 = q
  · subst e1
    rw [if_pos rfl, if_pos (by rw [List.length_set]; exact h2), if_neg (by omega), if_pos rfl]
  · rw [if_neg e1, List.getElem?_set]
    by_cases e2 : k = q
    · subst e2
      rw [if_pos rfl, if_pos h1, if_pos rfl]
    · rw [if_neg e2, if_neg (fun e => e2 e.symm), if_neg (fun e => e1 e.symm)]
theorem Bin.swap {n i k : Nat} {M : List BA} (h : Bin n i k M) (hk : k + 1 < n) {x y : BA} (hx : M[k]? = some x) (hy : M[k + 1]? = some y) (hlt : bs y < bs x) : Bin n i (k + 1) ((M.set k y).set (k + 1) x) := by
  have hg := get_swap hx hy
  have hki : k + 1 + i < n := by
    by_cases hc : n ≤ k + 1 + i
    · exact absurd hlt (h.done k (k + 1) x y (by omega) hk hc hx hy)
    · omega
  have done : Bub n i ((M.set k y).set (k + 1) x) := by
    intro p q u v hpq hq hn hu hv
    rw [hg] at hu hv
    rw [if_neg (by omega), if_neg (by omega)] at hv
    by_cases e1 : p = k
    · rw [if_pos e1] at hu
      cases hu
      exact h.done (k + 1) q y v (by omega) hq hn hy hv
    · rw [if_neg e1] at hu
      by_cases e2 : p = k + 1
      · rw [if_pos e2] at hu
        cases hu
        exact h.done k q x v (by omega) hq hn hx hv
      · rw [if_neg e2] at hu
        exact h.done p q u v hpq hq hn hu hv
  have top : ∀ p u v, p < k + 1 → ((M.set k y).set (k + 1) x)[p]? = some u → ((M.set k y).set (k + 1) x)[k + 1]? = some v → leB u v := by
    intro p u v hp hu hv
    rw [hg, if_neg (by omega), if_pos rfl] at hv
    cases hv
    rw [hg] at hu
    by_cases e1 : p = k
    · rw [if_pos e1] at hu
      cases hu
      exact leB_of_lt hlt
    · rw [if_neg e1, if_neg (by omega)] at hu
      exact h.top p u x (by omega) hu hx
  refine ⟨done, top, fun hn p u v hp hu hv => ?_⟩
  have e : n - 1 - i = k + 1 := by omega
  rw [e] at hv
  exact top p u v (by omega) hu hv
theorem Bin.next {n i k : Nat} {M : List BA} (h : Bin n i k M) (hk : n ≤ k + 1) (hi : i < n) : Bub n (i + 1) M := by
  intro p q x y hpq hq hn hx hy
  by_cases e : n ≤ q + i
  · exact h.done p q x y hpq hq e hx hy
  · have e2 : n - 1 - i = q := by omega
    exact h.cut (by omega) p x y (by omega) hx (by rw [e2]; exact hy)
theorem Bub.rise {n : Nat} {M : List BA} (h : Bub n n M) (hn : M.length = n) (hd : M.Nodup) : RiseB M := by
  rw [RiseB, List.pairwise_iff_getElem]
  intro p q hp hq hpq
  have h1 := h p q M[p] M[q] hpq (by omega) (by omega) (List.getElem?_eq_getElem hp) (List.getElem?_eq_getElem hq)
  have h2 : M[p] ≠ M[q] := by
    have := List.pairwise_iff_getElem.1 hd p q hp hq hpq
    exact this
  exact (bs_total h2).resolve_right h1
end Go.Proofs.YtopgepifakdpfaaDoor
