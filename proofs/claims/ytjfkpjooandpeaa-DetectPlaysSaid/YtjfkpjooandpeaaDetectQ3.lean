/- The detector's list and the reference's, side by side (plain). -/
import Derived.Test.YtjfkpjooandpeaaDetectR5
namespace Go.Proofs.Ytjfkpjooandpeaa
open Go Go.RowKit Go.Maps Go.Sort

/-- How many ticks are left. -/
def leftN (p now last : Int) : Int := if now - last < p then p - (now - last) else 0
def absL (p now : Int) (N : List RN) : DL := N.map (fun x => (kT x.1, leftN p now x.2))

theorem left_lives {p now last : Int} : decide (0 < leftN p now last) = livesB p now last := by
  unfold leftN livesB
  by_cases h : now - last < p
  · simp [h] <;> omega
  · simp [h]
theorem abs_start {p : Int} (hp : 1 ≤ p) {N : List RN} (hz : ∀ x ∈ N, x.2 = 0) : N.map (fN p) = absL p 0 N := by
  unfold absL fN
  apply List.map_congr_left
  intro x hx
  rw [hz x hx]
  unfold leftN
  rw [if_pos (by omega)]
  congr 1
  omega
theorem abs_tick {p now : Int} {N : List RN} : tickL (absL p now N) = absL p (now + 1) N := by
  unfold tickL absL
  rw [List.map_map]
  apply List.map_congr_left
  intro x _
  simp only [Function.comp]
  congr 1
  unfold dec leftN
  by_cases h : now - x.2 < p
  · rw [if_pos h, if_neg (by omega)]
    by_cases h' : now + 1 - x.2 < p
    · rw [if_pos h']; omega
    · rw [if_neg h']; omega
  · rw [if_neg h, if_pos rfl, if_neg (by omega)]
theorem abs_live {p now : Int} {N : List RN} : keysOf (liveL (absL p now N)) = rlive p now N := by
  unfold keysOf liveL absL rlive
  rw [List.filter_map, List.map_map]
  have e : ((fun q : Lit × Int => decide (0 < q.2)) ∘ fun x : RN => (kT x.1, leftN p now x.2)) = fun x => livesB p now x.2 := by
    funext x
    exact left_lives
  rw [e]
  apply List.map_congr_left
  intro x _
  exact txt_kT x.1
theorem abs_dies {p now : Int} {N : List RN} : keysOf (diesL (absL p now N)) = rdies p now N := by
  unfold keysOf diesL absL rdies
  rw [List.filter_map, List.map_map]
  have e : ((fun q : Lit × Int => decide (q.2 = 1)) ∘ fun x : RN => (kT x.1, leftN p now x.2)) = fun x => livesB p now x.2 && !livesB p (now + 1) x.2 := by
    funext x
    show decide (leftN p now x.2 = 1) = _
    unfold leftN livesB
    by_cases h : now - x.2 < p
    · by_cases h' : now + 1 - x.2 < p
      · simp [h, h']; omega
      · simp [h, h']; omega
    · simp [h]
  rw [e]
  apply List.map_congr_left
  intro x _
  exact txt_kT x.1
end Go.Proofs.Ytjfkpjooandpeaa
