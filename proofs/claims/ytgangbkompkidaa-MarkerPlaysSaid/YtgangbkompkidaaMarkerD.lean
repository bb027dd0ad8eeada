/- Plain: where a marker is put in a list of markers that rises. -/
import Derived.Test.YtgangbkompkidaaMarkerC
namespace Go.Proofs.Ytgangbkompkidaa
open Go Go.RowKit Go.Maps Go.Sort

theorem mput_head {x y : MK} {N : List MK} (h : mlt y x) : mput x (y :: N) = y :: mput x N := by
  rw [mput, if_pos ((lt_cfM y x).2 h)]
theorem mput_here {x y : MK} {N : List MK} (h : mlt x y) : mput x (y :: N) = x :: y :: N := by
  rw [mput, if_neg (fun e => mlt_irrefl _ (mlt_trans h ((lt_cfM y x).1 e))), if_pos ((lt_cfM x y).2 h)]
theorem mput_self {x : MK} {N : List MK} : mput x (x :: N) = x :: N := by
  rw [mput, if_neg (fun e => mlt_irrefl _ ((lt_cfM x x).1 e)), if_neg (fun e => mlt_irrefl _ ((lt_cfM x x).1 e))]
theorem mput_skip {x : MK} : ∀ {N : List MK} {k : Nat}, (∀ i y, i < k → N[i]? = some y → mlt y x) → mput x N = N.take k ++ mput x (N.drop k)
  | N, 0, _ => by simp
  | [], k + 1, _ => by simp [mput]
  | y :: N, k + 1, h => by
    have h0 := h 0 y (by omega) rfl
    rw [mput_head h0, mput_skip (k := k) (fun i z hi hz => h (i + 1) z (by omega) (by simpa using hz))]
    simp
theorem drop_at {N : List MK} {k : Nat} {y : MK} (h : N[k]? = some y) : N.drop k = y :: N.drop (k + 1) := by
  obtain ⟨hl, e⟩ := List.getElem?_eq_some_iff.1 h
  rw [List.drop_eq_getElem_cons hl, e]
theorem mput_end {x : MK} {N : List MK} (h : ∀ i y, i < N.length → N[i]? = some y → mlt y x) : mput x N = N ++ [x] := by
  rw [mput_skip h]
  simp [mput]
theorem mput_in {x y : MK} {N : List MK} {k : Nat} (h : ∀ i y, i < k → N[i]? = some y → mlt y x) (hy : N[k]? = some y) (hl : mlt x y) : mput x N = N.take k ++ x :: N.drop k := by
  rw [mput_skip h, drop_at hy, mput_here hl]
theorem mput_is {x : MK} {N : List MK} {k : Nat} (h : ∀ i y, i < k → N[i]? = some y → mlt y x) (hy : N[k]? = some x) : mput x N = N := by
  rw [mput_skip h, drop_at hy, mput_self, ← drop_at hy, List.take_append_drop]
theorem not_in_end {x : MK} {N : List MK} (h : ∀ i y, i < N.length → N[i]? = some y → mlt y x) : x ∉ N := by
  intro hx
  obtain ⟨i, hi⟩ := List.mem_iff_getElem?.1 hx
  exact mlt_irrefl _ (h i x (List.getElem?_eq_some_iff.1 hi).1 hi)
theorem rise_at {N : List MK} (hr : RiseM N) {i j : Nat} {x y : MK} (hij : i < j) (hx : N[i]? = some x) (hy : N[j]? = some y) : mlt x y := by
  obtain ⟨hi, ei⟩ := List.getElem?_eq_some_iff.1 hx
  obtain ⟨hj, ej⟩ := List.getElem?_eq_some_iff.1 hy
  have := List.pairwise_iff_getElem.1 hr i j hi hj hij
  rw [ei, ej] at this
  exact this
theorem not_in_mid {x y : MK} {N : List MK} {k : Nat} (hr : RiseM N) (h : ∀ i y, i < k → N[i]? = some y → mlt y x) (hy : N[k]? = some y) (hl : mlt x y) : x ∉ N := by
  intro hx
  obtain ⟨i, hi⟩ := List.mem_iff_getElem?.1 hx
  rcases Nat.lt_trichotomy i k with hik | rfl | hik
  · exact mlt_irrefl _ (h i x hik hi)
  · rw [hi] at hy
    cases hy
    exact mlt_irrefl _ hl
  · exact mlt_irrefl _ (mlt_trans hl (rise_at hr hik hy hi))
/-- Where the search for a marker's place ends. -/
inductive Place (x : MK) (N : List MK) : Nat → Prop
  | last (h : ∀ i y, i < N.length → N[i]? = some y → mlt y x) : Place x N N.length
  | same {k : Nat} (h : ∀ i y, i < k → N[i]? = some y → mlt y x) (hy : N[k]? = some x) : Place x N k
  | mid {k : Nat} {y : MK} (h : ∀ i y, i < k → N[i]? = some y → mlt y x) (hy : N[k]? = some y) (hl : mlt x y) : Place x N k
theorem place_ex (x : MK) (N : List MK) : ∃ k, Place x N k := by
  by_cases h : ∃ (k : Nat) (y : MK), N[k]? = some y ∧ ¬ mlt y x
  · have : ∃ k : Nat, (∃ y, N[k]? = some y ∧ ¬ mlt y x) ∧ ∀ i, i < k → ¬ ∃ y, N[i]? = some y ∧ ¬ mlt y x := by
      obtain ⟨k, hk⟩ := h
      induction k using Nat.strongRecOn with
      | _ k ih =>
        by_cases h' : ∃ i, i < k ∧ ∃ y, N[i]? = some y ∧ ¬ mlt y x
        · obtain ⟨i, hi, hy⟩ := h'
          exact ih i hi hy
        · exact ⟨k, hk, fun i hi hy => h' ⟨i, hi, hy⟩⟩
    obtain ⟨k, ⟨y, hy, hn⟩, hall⟩ := this
    have hh : ∀ i z, i < k → N[i]? = some z → mlt z x := fun i z hi hz => Classical.byContradiction fun e => hall i hi ⟨z, hz, e⟩
    refine ⟨k, ?_⟩
    by_cases hl : mlt x y
    · exact .mid hh hy hl
    · have e : y = x := mlt_tri hn hl
      subst e
      exact .same hh hy
  · exact ⟨N.length, .last fun i y _ hy => Classical.byContradiction fun e => h ⟨i, y, hy, e⟩⟩
/-- The lists of two runs over the same markers. -/
def mputs (z : Nat → MK) : Nat → List MK
  | 0 => []
  | k + 1 => mput (z k) (mputs z k)
theorem mputs_mem (z : Nat → MK) (y : MK) : ∀ k, y ∈ mputs z k ↔ ∃ i, i < k ∧ z i = y
  | 0 => by simp [mputs]
  | k + 1 => by
    rw [mputs, mput_mem, mputs_mem z y k]
    constructor
    · rintro (rfl | ⟨i, hi, rfl⟩)
      · exact ⟨k, by omega, rfl⟩
      · exact ⟨i, by omega, rfl⟩
    · rintro ⟨i, hi, rfl⟩
      by_cases e : i = k
      · subst e; exact Or.inl rfl
      · exact Or.inr ⟨i, by omega, rfl⟩
theorem mputs_rise (z : Nat → MK) : ∀ k, RiseM (mputs z k)
  | 0 => List.Pairwise.nil
  | k + 1 => mput_rise _ _ (mputs_rise z k)
theorem mputs_len (z : Nat → MK) : ∀ k, (mputs z k).length ≤ k
  | 0 => Nat.le_refl _
  | k + 1 => by
    have := mputs_len z k
    have := mput_len (z k) (mputs z k)
    rw [mputs]
    omega
theorem mputs_back (z : Nat → MK) (n : Nat) : mputs (fun i => z (n - 1 - i)) n = mputs z n := by
  refine rise_ext (mputs_rise _ _) (mputs_rise _ _) fun y => ?_
  rw [mputs_mem, mputs_mem]
  constructor
  · rintro ⟨i, hi, rfl⟩
    exact ⟨n - 1 - i, by omega, rfl⟩
  · rintro ⟨i, hi, rfl⟩
    exact ⟨n - 1 - i, by omega, by show z (n - 1 - (n - 1 - i)) = z i; rw [show n - 1 - (n - 1 - i) = i by omega]⟩
end Go.Proofs.Ytgangbkompkidaa
