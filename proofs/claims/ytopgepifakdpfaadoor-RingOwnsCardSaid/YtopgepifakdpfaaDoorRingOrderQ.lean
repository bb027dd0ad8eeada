/- A list turned and turned over is of the same elements: the plain part of RingOrder, and stores into slices of texts. -/
import Derived.Test.YtopgepifakdpfaaDoorRingMovesQ
import Derived.Test.YtopgepifakdpfaaDoorLibSub
namespace Go.Proofs.YtopgepifakdpfaaDoor
open Go Go.RowKit Go.Maps Go.Sort
set_option maxRecDepth 100000

theorem swap_perm {F : List BA} {i j : Nat} {x y : BA} (hx : F[i]? = some x) (hy : F[j]? = some y) : ((F.set i y).set j x).Perm F := by
  obtain ⟨hi, e1⟩ := List.getElem?_eq_some_iff.1 hx
  obtain ⟨hj, e2⟩ := List.getElem?_eq_some_iff.1 hy
  have := Array.swap_perm (xs := F.toArray) (i := i) (j := j) (by simpa using hi) (by simpa using hj)
  rw [Array.perm_iff_toList_perm] at this
  simp only [Array.swap, Array.toList_set, List.getElem_toArray] at this
  rw [e1, e2] at this
  exact this
theorem turn_perm (N : List BA) (k : Nat) : (N.drop k ++ N.take k).Perm N := by
  have := List.perm_append_comm (l₁ := N.drop k) (l₂ := N.take k)
  rw [List.take_append_drop] at this
  exact this
theorem flat_cS (M : List BA) (j : Nat) (u : Value) (h : (M.flatMap cS)[j]? = some u) : ∃ x, M[j]? = some x ∧ u = .string x := by
  have e : M.flatMap cS = M.map Value.string := by
    clear h
    induction M with
    | nil => rfl
    | cons x r ih => simp [cS]; exact ih
  rw [e, List.getElem?_map] at h
  obtain ⟨x, hx, rfl⟩ := Option.map_eq_some_iff.1 h
  exact ⟨x, hx, rfl⟩
theorem rds_drop {w : World} {a : Option Addr} {N : List BA} (h : RdS w a N) (i c : Nat) {n : Nat} (hn : N.length = n) : Sub w cS (.slice (Option.map (fun x => x.add i) a) (n - i) c) (N.drop i) := by
  subst hn
  refine ⟨_, c, by rw [List.length_drop], ?_⟩
  rcases h with h | ⟨b', off', rfl, hb, hc⟩
  · left; rw [h]; simp
  · refine Or.inr ⟨b', off' + i, by simp only [Option.map]; unfold Addr.add; split <;> simp_all, hb, fun j u hu => ?_⟩
    obtain ⟨x, hx, rfl⟩ := flat_cS _ j u hu
    rw [List.getElem?_drop] at hx
    rw [Nat.add_assoc]
    exact hc _ _ hx
theorem rds_takeS {w : World} {a : Option Addr} {N : List BA} (h : RdS w a N) {i : Nat} (hi : i ≤ N.length) (c : Nat) : Sub w cS (.slice a i c) (N.take i) := by
  refine ⟨_, c, by rw [List.length_take, Nat.min_eq_left hi], ?_⟩
  rcases h with h | ⟨b', off', rfl, hb, hc⟩
  · left; rw [h]; simp
  · refine Or.inr ⟨b', off', rfl, hb, fun j u hu => ?_⟩
    obtain ⟨x, hx, rfl⟩ := flat_cS _ j u hu
    rw [List.getElem?_take] at hx
    split at hx
    · exact hc _ _ hx
    · cases hx
/-- A store into a slice of texts of one's own. -/
theorem own_set {w : World} {B g n cap : Nat} {F : List BA} (h : Own w B 9 1 cS (.slice (some ⟨g, 0, none⟩) n cap) F) {i : Nat} (hi : i < F.length) (x : BA) :
    Own (w.setCell ⟨g, i, none⟩ (.string x)) B 9 1 cS (.slice (some ⟨g, 0, none⟩) n cap) (F.set i x) := by
  have hl := h.room.1
  subst hl
  have h3 := (World.ownsRow.stored h i (.string x)).1
  have e : ∀ (M : List BA) (j : Nat), (M.flatMap cS).set j (.string x) = (M.set j x).flatMap cS := by
    intro M
    induction M with
    | nil => intro j; rfl
    | cons y r ih =>
      intro j
      cases j with
      | zero => simp [cS]
      | succ j =>
        have := ih j
        simp only [List.flatMap_cons, cS, List.singleton_append, List.set_cons_succ]
        rw [← this]
  rw [e] at h3
  unfold Own
  rw [List.length_set]
  exact h3
theorem own_at {w : World} {B g n cap : Nat} {F : List BA} (h : Own w B 9 1 cS (.slice (some ⟨g, 0, none⟩) n cap) F) {i : Nat} {x : BA} (hx : F[i]? = some x) : w.cell? ⟨g, i, none⟩ = some (.string x) ∧ w.frozen? ⟨g, i, none⟩ = false := by
  obtain ⟨g', c', hv, _, _, hc⟩ := h.cells cS_len hx
  cases hv
  have := hc 0 _ rfl
  simp at this
  exact ⟨this, h.free rfl⟩
end Go.Proofs.YtopgepifakdpfaaDoor
