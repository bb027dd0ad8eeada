/- How often a text stands in a list: the plain part of RingAll. -/
import Derived.Test.YtopgepifakdpfaaDoorRingM
namespace Go.Proofs.YtopgepifakdpfaaDoor
open Go Go.RowKit Go.Maps Go.Sort

def tms (x : BA) (l : List BA) : Nat := l.countP (fun y => decide (y = x))
theorem tms_nil (x : BA) : tms x [] = 0 := rfl
theorem tms_take {x : BA} {l : List BA} {k : Nat} {y : BA} (h : l[k]? = some y) : tms x (l.take (k + 1)) = tms x (l.take k) + (if y = x then 1 else 0) := by
  unfold tms
  rw [List.take_add_one, h, List.countP_append]
  simp [List.countP_cons]
theorem tms_no {x : BA} {l : List BA} (h : ¬ x ∈ l) : tms x l = 0 := by
  unfold tms
  rw [List.countP_eq_zero]
  intro y hy e
  simp at e
  subst e
  exact h hy
theorem tms_one {x : BA} : ∀ {l : List BA}, l.Nodup → x ∈ l → tms x l = 1
  | [], _, h => by simp at h
  | y :: l, hn, h => by
    obtain ⟨h1, h2⟩ := List.nodup_cons.1 hn
    unfold tms
    rw [List.countP_cons]
    by_cases e : y = x
    · subst e
      have := tms_no h1
      unfold tms at this
      rw [this]
      simp
    · have hx : x ∈ l := by
        rcases List.mem_cons.1 h with h | h
        · exact absurd h.symm e
        · exact h
      have := tms_one h2 hx
      unfold tms at this
      rw [this]
      simp [e]
theorem tms_ow {W : BA → Int} {L O : List BA} (h : Ow W L O) (hL : L.Nodup) {x : BA} (hx : x ∈ L) : tms x O = 1 := by
  have : tms x O = tms x L := h.1.countP_eq _
  rw [this]
  exact tms_one hL hx
theorem rise_at {L : List BA} (h : RiseB L) {i : Nat} {x y : BA} (hx : L[i]? = some x) (hy : L[i + 1]? = some y) : bs x < bs y := by
  obtain ⟨h1, e1⟩ := List.getElem?_eq_some_iff.1 hx
  obtain ⟨h2, e2⟩ := List.getElem?_eq_some_iff.1 hy
  have := List.pairwise_iff_getElem.1 h i (i + 1) h1 h2 (by omega)
  rw [e1, e2] at this
  exact this
end Go.Proofs.YtopgepifakdpfaaDoor
