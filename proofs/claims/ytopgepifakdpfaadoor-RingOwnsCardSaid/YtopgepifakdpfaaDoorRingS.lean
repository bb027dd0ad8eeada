/- What Owners of package ring comes to. -/
import Derived.Test.YtopgepifakdpfaaDoorRingO2
namespace Go.Proofs.YtopgepifakdpfaaDoor
open Go Go.RowKit Go.Maps Go.Sort
set_option maxRecDepth 100000

theorem keep_grow (w : World) (m : Nat) (os : Array Obj) : Keep NoB w (grow (w.drewN m) os) :=
  ⟨rfl, rfl, rfl, by simp [grow, World.drewN], fun k hk _ => grow_old (w.drewN m) os hk⟩
theorem RgD.keep0 {w w' : World} {B M rb : Nat} {L : List BA} {S : List PT} (h : RgD w B M rb L S) (hk : Keep NoB w w') : RgD w' B M rb L S := by
  obtain ⟨h0, na, nc, sm, pa, pc, h1, h2, h3, h4, h5, h6⟩ := h
  exact ⟨h0, na, nc, sm, pa, pc, blk_keep h1 hk (fun h => h), h2.keep hk (fun _ _ h => h), h3.keep hk (fun _ _ h => h), h4, h5, h6⟩
/-- A slice of texts that came later turns. -/
theorem RgD.keepO {w w' : World} {B B' M rb : Nat} {L : List BA} {S : List PT} {v : Value} {F : List BA} (h : RgD w B M rb L S) (O : Own w B' 9 1 cS v F) (hk : Keep (fun q => v.ownBlock = some q) w w') (hM : M ≤ B') : RgD w' B M rb L S := by
  obtain ⟨h0, na, nc, sm, pa, pc, h1, h2, h3, h4, h5, h6⟩ := h
  refine ⟨h0, na, nc, sm, pa, pc, blk_keep h1 hk (fun e => O.ne h1 (by decide) rb e rfl), h2.keep hk (fun g hg e => ?_), h3.keep hk (fun g hg e => h3.ne_own O (by decide) g hg e), h4, h5, h6⟩
  have := h6 g hg
  have := O.fresh g e
  omega
theorem s_le {S : List PT} (hs : S.Pairwise (fun x y => ltP y x = false)) {i j : Nat} {x y : PT} (hij : i ≤ j) (hi : S[i]? = some x) (hj : S[j]? = some y) : x.1 ≤ y.1 := by
  obtain ⟨i1, i2⟩ := List.getElem?_eq_some_iff.1 hi
  obtain ⟨j1, j2⟩ := List.getElem?_eq_some_iff.1 hj
  rcases Nat.lt_or_ge i j with h | h
  · rw [List.pairwise_iff_getElem] at hs
    have := hs i j i1 j1 h
    rw [i2, j2] at this
    simp only [ltP, decide_eq_false_iff_not, not_or] at this
    omega
  · have : i = j := by omega
    subst this
    rw [i2] at j2
    rw [j2]
    exact Int.le_refl _

theorem clo_any (w : World) (pb hb rb g n pc i : Nat) (h v : Int) (hi : i < n) (hS : w.cell? ⟨pb, 0, none⟩ = some (.pointer (some ⟨rb, 0, none⟩)) ∧ w.cell? ⟨hb, 0, none⟩ = some (.int .u64 h) ∧ w.cell? ⟨rb, 4, none⟩ = some (.slice (some ⟨g, 0, none⟩) n pc) ∧ w.cell? ⟨g, i * 2, none⟩ = some (.int .u64 v)) (b : Bool) (hb' : decide (h ≤ v) = b) :
    Calls Tryd.prog 25 #[.int .i64 (i : Int), .pointer (some ⟨pb, 0, none⟩), .pointer (some ⟨hb, 0, none⟩)] w fun e w' => e = .returned (.bool b) ∧ ∃ q os', w' = grow (w.drewN q) os' := by
  have HS := Lib.hid (show w.drew.cell? ⟨pb, 0, none⟩ = some (.pointer (some ⟨rb, 0, none⟩)) ∧ w.drew.cell? ⟨hb, 0, none⟩ = some (.int .u64 h) ∧ w.drew.cell? ⟨rb, 4, none⟩ = some (.slice (some ⟨g, 0, none⟩) n pc) ∧ w.drew.cell? ⟨g, i * 2, none⟩ = some (.int .u64 v) from hS)
  have d1 : (i : Int) < (n : Int) := by omega
  have d2 : (0 : Int) ≤ (i : Int) := by omega
  have d3 : ¬ (i : Int) < 0 := by omega
  have d4 : ((i : Int)).toNat = i := by omega
  clear hS
  go_enter Tryd.func25, Tryd.ntmps25
  go_wp2_with fail
  refine wp_region_pl (fun u => u.cell? ⟨pb, 0, none⟩ = some (.pointer (some ⟨rb, 0, none⟩)) ∧ u.cell? ⟨hb, 0, none⟩ = some (.int .u64 h) ∧ u.cell? ⟨rb, 4, none⟩ = some (.slice (some ⟨g, 0, none⟩) n pc) ∧ u.cell? ⟨g, i * 2, none⟩ = some (.int .u64 v)) [] (.rd 0 (.rd 1 (.rd 2 (.rd 3 (.rd 4 (.rd 5 (.rd 6 (.rd 7 (.rd 8 (.rd 9 (.one 10 .done))))))))))) (by kernel_rfl) (by kernel_rfl) (by kernel_rfl) (by kernel_rfl) (by intro c b d v u h; cases d <;> exact h) ?_
  first
    | refine pl_get (i := 0) rfl rfl HS.out rfl (fun u hu => by (try dsimp only at hu); go_simp; rfl) (by simp only [List.setIfInBounds_toArray, List.set_cons_succ, List.set_cons_zero]; rfl) ?_
    | refine pl_skip (i := 0) rfl rfl HS.out rfl (by simp only [List.setIfInBounds_toArray, List.set_cons_succ, List.set_cons_zero]; rfl) ?_
  first
    | refine pl_get (i := 1) rfl rfl HS.out rfl (fun u hu => by (try dsimp only at hu); go_simp; rfl) (by simp only [List.setIfInBounds_toArray, List.set_cons_succ, List.set_cons_zero]; rfl) ?_
    | refine pl_skip (i := 1) rfl rfl HS.out rfl (by simp only [List.setIfInBounds_toArray, List.set_cons_succ, List.set_cons_zero]; rfl) ?_
  first
    | refine pl_get (i := 2) rfl rfl HS.out rfl (fun u hu => by (try dsimp only at hu); go_simp; rfl) (by simp only [List.setIfInBounds_toArray, List.set_cons_succ, List.set_cons_zero]; rfl) ?_
    | refine pl_skip (i := 2) rfl rfl HS.out rfl (by simp only [List.setIfInBounds_toArray, List.set_cons_succ, List.set_cons_zero]; rfl) ?_
  first
    | refine pl_get (i := 3) rfl rfl HS.out rfl (fun u hu => by (try dsimp only at hu); go_simp; rfl) (by simp only [List.setIfInBounds_toArray, List.set_cons_succ, List.set_cons_zero]; rfl) ?_
    | refine pl_skip (i := 3) rfl rfl HS.out rfl (by simp only [List.setIfInBounds_toArray, List.set_cons_succ, List.set_cons_zero]; rfl) ?_
  first
    | refine pl_get (i := 4) rfl rfl HS.out rfl (fun u hu => by (try dsimp only at hu); go_simp; rfl) (by simp only [List.setIfInBounds_toArray, List.set_cons_succ, List.set_cons_zero]; rfl) ?_
    | refine pl_skip (i := 4) rfl rfl HS.out rfl (by simp only [List.setIfInBounds_toArray, List.set_cons_succ, List.set_cons_zero]; rfl) ?_
  first
    | refine pl_get (i := 5) rfl rfl HS.out rfl (fun u hu => by (try dsimp only at hu); go_simp; rfl) (by simp only [List.setIfInBounds_toArray, List.set_cons_succ, List.set_cons_zero]; rfl) ?_
    | refine pl_skip (i := 5) rfl rfl HS.out rfl (by simp only [List.setIfInBounds_toArray, List.set_cons_succ, List.set_cons_zero]; rfl) ?_
  first
    | refine pl_get (i := 6) rfl rfl HS.out rfl (fun u hu => by (try dsimp only at hu); go_simp; rfl) (by simp only [List.setIfInBounds_toArray, List.set_cons_succ, List.set_cons_zero]; rfl) ?_
    | refine pl_skip (i := 6) rfl rfl HS.out rfl (by simp only [List.setIfInBounds_toArray, List.set_cons_succ, List.set_cons_zero]; rfl) ?_
  first
    | refine pl_get (i := 7) rfl rfl HS.out rfl (fun u hu => by (try dsimp only at hu); go_simp; rfl) (by simp only [List.setIfInBounds_toArray, List.set_cons_succ, List.set_cons_zero]; rfl) ?_
    | refine pl_skip (i := 7) rfl rfl HS.out rfl (by simp only [List.setIfInBounds_toArray, List.set_cons_succ, List.set_cons_zero]; rfl) ?_
  first
    | refine pl_get (i := 8) rfl rfl HS.out rfl (fun u hu => by (try dsimp only at hu); go_simp; rfl) (by simp only [List.setIfInBounds_toArray, List.set_cons_succ, List.set_cons_zero]; rfl) ?_
    | refine pl_skip (i := 8) rfl rfl HS.out rfl (by simp only [List.setIfInBounds_toArray, List.set_cons_succ, List.set_cons_zero]; rfl) ?_
  first
    | refine pl_get (i := 9) rfl rfl HS.out rfl (fun u hu => by (try dsimp only at hu); go_simp; rfl) (by simp only [List.setIfInBounds_toArray, List.set_cons_succ, List.set_cons_zero]; rfl) ?_
    | refine pl_skip (i := 9) rfl rfl HS.out rfl (by simp only [List.setIfInBounds_toArray, List.set_cons_succ, List.set_cons_zero]; rfl) ?_
  refine pl_one (i := 10) rfl ?_
  go_wp2_with (fail)
  refine pl_next (fun _ => HS.out) ?_
  refine pl_done ?_
  go_wp2
  go_ret
  exact ⟨rfl, 1, #[], by rw [grow_empty]; rfl⟩
end Go.Proofs.YtopgepifakdpfaaDoor
