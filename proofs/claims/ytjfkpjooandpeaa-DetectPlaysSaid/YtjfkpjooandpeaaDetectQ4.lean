/- The detector's list and the reference's: a beat (plain). -/
import Derived.Test.YtjfkpjooandpeaaDetectQ3
namespace Go.Proofs.Ytjfkpjooandpeaa
open Go Go.RowKit Go.Maps Go.Sort

theorem abs_none {p now : Int} {N : List RN} {s : ByteArray} (h : ∀ x ∈ N, x.1 ≠ s) : lget (absL p now N) (kT s) = none := by
  unfold lget absL
  rw [Option.map_eq_none_iff, List.find?_eq_none]
  intro q hq
  obtain ⟨x, hx, rfl⟩ := List.mem_map.1 hq
  show ¬ (kT x.1).sameKey (kT s) = true
  rw [kT_ne (h x hx)]
  simp
theorem abs_apart {p now : Int} {N : List RN} (h : Rise N) : Apart (absL p now N) := by
  unfold Apart absL
  rw [List.pairwise_map]
  refine h.imp (fun {x y} hxy e => ?_)
  have : x.1 = y.1 := kT_inj e
  rw [this] at hxy
  exact List.lt_irrefl _ hxy
theorem abs_some {p now : Int} {N : List RN} (h : Rise N) {x : RN} (hx : x ∈ N) : lget (absL p now N) (kT x.1) = some (leftN p now x.2) :=
  lget_of_mem (abs_apart h) (kT_key _) (List.mem_map.2 ⟨x, hx, rfl⟩)
theorem abs_rising {p now : Int} {N : List RN} (h : Rise N) : (absL p now N).Pairwise (fun a b => a.1.before b.1 = true) := by
  unfold absL
  rw [List.pairwise_map]
  exact h.imp (fun {x y} hxy => lt_before hxy)
theorem abs_beat {p now : Int} (hp : 1 ≤ p) {N : List RN} (h : Rise N) {i : Nat} {x : RN} (hx : N[i]? = some x) : beatL p (absL p now N) (kT x.1) = absL p now (N.set i (x.1, now)) := by
  have hm := List.mem_of_getElem? hx
  have hg := abs_some (p := p) (now := now) h hm
  have hil : i < N.length := (List.getElem?_eq_some_iff.1 hx).1
  unfold beatL
  rw [hg, if_pos (by rfl), lput_lset (abs_rising h) (kT_key _) hg]
  unfold lset absL
  rw [List.map_map]
  apply List.ext_getElem?
  intro j
  rw [List.getElem?_map, List.getElem?_map, List.getElem?_set]
  by_cases hj : i = j
  · subst hj
    rw [if_pos rfl, if_pos hil, hx]
    show some _ = some _
    simp only [Function.comp, WideAt.sameKey_self (kT_key _), if_true]
    unfold leftN
    rw [if_pos (by omega)]
    congr 2
    omega
  · rw [if_neg hj]
    cases hy : N[j]? with
    | none => rfl
    | some y =>
      have hne : y.1 ≠ x.1 := by
        intro e
        have hjl : j < N.length := (List.getElem?_eq_some_iff.1 hy).1
        have e1 := (List.getElem?_eq_some_iff.1 hx).2
        have e2 := (List.getElem?_eq_some_iff.1 hy).2
        rcases Nat.lt_or_gt_of_ne hj with hlt | hlt
        · have := List.pairwise_iff_getElem.1 h i j hil hjl hlt
          rw [e1, e2, e] at this
          exact List.lt_irrefl _ this
        · have := List.pairwise_iff_getElem.1 h j i hjl hil hlt
          rw [e1, e2, e] at this
          exact List.lt_irrefl _ this
      show some _ = some _
      simp only [Function.comp, kT_ne hne]
      rfl
theorem set_rise {N : List RN} (h : Rise N) {i : Nat} {x : RN} (hx : N[i]? = some x) (t : Int) : Rise (N.set i (x.1, t)) := by
  have e : (N.set i (x.1, t)).map (·.1) = N.map (·.1) := by
    apply List.ext_getElem?
    intro j
    rw [List.getElem?_map, List.getElem?_map, List.getElem?_set]
    by_cases hj : i = j
    · subst hj
      rw [if_pos rfl, if_pos (List.getElem?_eq_some_iff.1 hx).1, hx]
      rfl
    · rw [if_neg hj]
  have h1 : (N.map (·.1)).Pairwise (fun a b => bs a < bs b) := List.pairwise_map.2 (show N.Pairwise (fun x y => bs x.1 < bs y.1) from h)
  rw [← e] at h1
  have h2 := (List.pairwise_map (f := fun x : RN => x.1) (R := fun a b => bs a < bs b)).1 h1
  exact h2
end Go.Proofs.Ytjfkpjooandpeaa
