/- The comparisons of package marker. -/
import Derived.Test.YtgangbkompkidaaMarkerU
import Derived.Test.YtgangbkompkidaaLibRise
import Derived.Test.YtgangbkompkidaaLibReg2
import Derived.Test.YtgangbkompkidaaLibKs
import Derived.Test.YtgangbkompkidaaLibSort
import Derived.Test.YtgangbkompkidaaShelf
namespace Go.Proofs.Ytgangbkompkidaa
open Go Go.RowKit Go.Maps Go.Sort

def cmpI (a b : Int) : Int := if a < b then -1 else if b < a then 1 else 0
theorem cmp_int (a b : Int) (w : World) : Calls Try.prog 28 #[.int .i64 a, .int .i64 b] w fun e w' => e = .returned (.int .i64 (cmpI a b)) ∧ w = w' := by
  unfold cmpI
  by_cases h1 : a < b
  · rw [if_pos h1]
    have d1 : decide (a < b) = true := by simpa using h1
    go_enter Try.func28, Try.ntmps28
    go_wp2
    go_ret
    exact ⟨rfl, rfl⟩
  · have d1 : decide (a < b) = false := by simpa using h1
    rw [if_neg h1]
    by_cases h2 : b < a
    · rw [if_pos h2]
      have d2 : decide (b < a) = true := by simpa using h2
      go_enter Try.func28, Try.ntmps28
      go_wp2
      go_ret
      exact ⟨rfl, rfl⟩
    · rw [if_neg h2]
      have d2 : decide (b < a) = false := by simpa using h2
      go_enter Try.func28, Try.ntmps28
      go_wp2
      go_ret
      exact ⟨rfl, rfl⟩
def cmpS (a b : ByteArray) : Int := if bs a < bs b then -1 else if bs b < bs a then 1 else 0
theorem cmp_str (a b : ByteArray) (w : World) : Calls Try.prog 27 #[.string a, .string b] w fun e w' => e = .returned (.int .i64 (cmpS a b)) ∧ w = w' := by
  unfold cmpS
  by_cases h1 : bs a < bs b
  · rw [if_pos h1]
    have d1 := tx_lt h1
    clear h1
    go_enter Try.func27, Try.ntmps27
    go_wp2
    go_ret
    exact ⟨rfl, rfl⟩
  · have d1 := tx_nlt h1
    rw [if_neg h1]
    by_cases h2 : bs b < bs a
    · rw [if_pos h2]
      have hne : a ≠ b := fun e => by rw [e] at h2; exact List.lt_irrefl _ h2
      have d2 := tx_ne hne
      clear h1 h2 hne
      go_enter Try.func27, Try.ntmps27
      go_wp2
      go_ret
      exact ⟨rfl, rfl⟩
    · rw [if_neg h2]
      by_cases he : a = b
      · subst he
        have d2 : (a.toList == a.toList) = true := by simp
        clear h1 h2
        go_enter Try.func27, Try.ntmps27
        go_wp2
        go_ret
        exact ⟨rfl, rfl⟩
      · exact absurd (bs_tri h1 he) h2
def orI (x y z : Int) : Int := if x = 0 then (if y = 0 then z else y) else x
theorem or_any (b : Nat) (x y z : Int) (w : World) (hb : w.heap[b]? = some (.cells #[.int .i64 x, .int .i64 y, .int .i64 z] 3 (0, 0))) :
    Calls Try.prog 26 #[.slice (some ⟨b, 0, none⟩) 3 3] w fun e w' => e = .returned (.int .i64 (orI x y z)) ∧ w = w' := by
  have c0 := blk_cell hb 0
  have c1 := blk_cell hb 1
  have c2 := blk_cell hb 2
  have hlt := blk_lt hb
  simp at c0 c1 c2
  clear hb
  unfold orI
  by_cases hx : x = 0
  · subst hx
    rw [if_pos rfl]
    by_cases hy : y = 0
    · subst hy
      rw [if_pos rfl]
      by_cases hz : z = 0
      · subst hz
        go_enter Try.func26, Try.ntmps26
        go_wp2_with fail
        go_loopw [8] (fun iv wr => ∃ k : Nat, k ≤ 3 ∧ iv = .int .i64 (k : Int) ∧ wr = w) (fun iv _ => 3 - (intOf iv).toNat)
        case atStart => exact ⟨0, by omega, rfl, rfl⟩
        case round =>
          obtain ⟨k, hk, rfl, rfl⟩ := hrel
          rcases (by omega : k = 0 ∨ k = 1 ∨ k = 2 ∨ k = 3) with rfl | rfl | rfl | rfl
          · go_wp2_with fail
            go_roundw
            case rel => exact ⟨1, by omega, rfl, trivial⟩
            case measure => simp [intOf]
          · go_wp2_with fail
            go_roundw
            case rel => exact ⟨2, by omega, rfl, trivial⟩
            case measure => simp [intOf]
          · go_wp2_with fail
            go_roundw
            case rel => exact ⟨3, by omega, rfl, trivial⟩
            case measure => simp [intOf]
          · go_wp2
            go_ret
            exact ⟨rfl, rfl⟩
      · have hq : (z != 0) = true := by simpa using hz
        clear hz
        go_enter Try.func26, Try.ntmps26
        go_wp2_with fail
        go_loopw [8] (fun iv wr => ∃ k : Nat, k ≤ 2 ∧ iv = .int .i64 (k : Int) ∧ wr = w) (fun iv _ => 3 - (intOf iv).toNat)
        case atStart => exact ⟨0, by omega, rfl, rfl⟩
        case round =>
          obtain ⟨k, hk, rfl, rfl⟩ := hrel
          rcases (by omega : k = 0 ∨ k = 1 ∨ k = 2) with rfl | rfl | rfl
          · go_wp2_with fail
            go_roundw
            case rel => exact ⟨1, by omega, rfl, trivial⟩
            case measure => simp [intOf]
          · go_wp2_with fail
            go_roundw
            case rel => exact ⟨2, by omega, rfl, trivial⟩
            case measure => simp [intOf]
          · go_wp2
            go_ret
            exact ⟨rfl, rfl⟩
    · rw [if_neg hy]
      have hq : (y != 0) = true := by simpa using hy
      clear hy
      go_enter Try.func26, Try.ntmps26
      go_wp2_with fail
      go_loopw [8] (fun iv wr => ∃ k : Nat, k ≤ 1 ∧ iv = .int .i64 (k : Int) ∧ wr = w) (fun iv _ => 3 - (intOf iv).toNat)
      case atStart => exact ⟨0, by omega, rfl, rfl⟩
      case round =>
        obtain ⟨k, hk, rfl, rfl⟩ := hrel
        rcases (by omega : k = 0 ∨ k = 1) with rfl | rfl
        · go_wp2_with fail
          go_roundw
          case rel => exact ⟨1, by omega, rfl, trivial⟩
          case measure => simp [intOf]
        · go_wp2
          go_ret
          exact ⟨rfl, rfl⟩
  · rw [if_neg hx]
    have hq : (x != 0) = true := by simpa using hx
    clear hx
    go_enter Try.func26, Try.ntmps26
    go_wp2_with fail
    go_loopw [8] (fun iv wr => ∃ k : Nat, k ≤ 0 ∧ iv = .int .i64 (k : Int) ∧ wr = w) (fun iv _ => 3 - (intOf iv).toNat)
    case atStart => exact ⟨0, by omega, rfl, rfl⟩
    case round =>
      obtain ⟨k, hk, rfl, rfl⟩ := hrel
      obtain rfl : k = 0 := by omega
      go_wp2
      go_ret
      exact ⟨rfl, rfl⟩
def cfM (x y : MK) : Int := orI (cmpS x.1 y.1) (cmpI x.2.1 y.2.1) (cmpI x.2.2 y.2.2)
def mCells (x : MK) : List Value := [.string x.1, .int .i64 x.2.1, .int .i64 x.2.2]
theorem mCells_len (x : MK) : (mCells x).length = 3 := rfl
theorem mCells_one (x : MK) : ∀ u ∈ mCells x, u.oneCell' = true := by
  intro u hu
  simp [mCells] at hu
  rcases hu with rfl | rfl | rfl <;> rfl
theorem closure_any (x y : MK) (W : World) : Calls Try.prog 25 #[.agg (mCells x).toArray, .agg (mCells y).toArray] W fun e w' => e = .returned (.int .i64 (cfM x y)) ∧ ∃ q os', w' = grow (W.drewN q) os' := by
  have h1 := fun W' => cmp_str x.1 y.1 W'
  have h2 := fun W' => cmp_int x.2.1 y.2.1 W'
  have h3 := fun W' => cmp_int x.2.2 y.2.2 W'
  unfold cfM
  generalize cmpS x.1 y.1 = r1 at h1 ⊢
  generalize cmpI x.2.1 y.2.1 = r2 at h2 ⊢
  generalize cmpI x.2.2 y.2.2 = r3 at h3 ⊢
  obtain ⟨x1, x2, x3⟩ := x
  obtain ⟨y1, y2, y3⟩ := y
  simp only [mCells] at h1 h2 h3 ⊢
  go_enter Try.func25, Try.ntmps25
  go_wp2_with fail
  have bA := blk_new W (.cells #[.string x1, .int .i64 x2, .int .i64 x3] 37)
  have bB := blk_new (W.alloc (.cells #[.string x1, .int .i64 x2, .int .i64 x3] 37)) (.cells #[.string y1, .int .i64 y2, .int .i64 y3] 37)
  have bA2 := blk_alloc (o' := .cells #[.string y1, .int .i64 y2, .int .i64 y3] 37) bA
  obtain ⟨xb, hxb⟩ : ∃ t, W.heap.size = t := ⟨_, rfl⟩
  obtain ⟨yb, hyb⟩ : ∃ t, (W.alloc (.cells #[.string x1, .int .i64 x2, .int .i64 x3] 37)).heap.size = t := ⟨_, rfl⟩
  have hyb' : W.heap.size + 1 = yb := by rw [← hyb]; simp
  rw [hyb] at bB
  rw [hyb', hxb]
  rw [hxb] at bA2
  obtain ⟨W2, hW2⟩ : ∃ W2, (W.alloc (.cells #[.string x1, .int .i64 x2, .int .i64 x3] 37)).alloc (.cells #[.string y1, .int .i64 y2, .int .i64 y3] 37) = W2 := ⟨_, rfl⟩
  rw [hW2] at bA2 bB ⊢
  have HW2 := Lib.hid hW2
  clear bA hxb hyb hyb' hW2
  have a0 := blk_cell bA2 0
  have a1 := blk_cell bA2 1
  have a2 := blk_cell bA2 2
  have b0 := blk_cell bB 0
  have b1 := blk_cell bB 1
  have b2 := blk_cell bB 2
  simp at a0 a1 a2 b0 b1 b2
  have HS := Lib.hid (show W2.drew.cell? ⟨xb, 0, none⟩ = some (.string x1) ∧ W2.drew.cell? ⟨xb, 1, none⟩ = some (.int .i64 x2) ∧ W2.drew.cell? ⟨xb, 2, none⟩ = some (.int .i64 x3) ∧ W2.drew.cell? ⟨yb, 0, none⟩ = some (.string y1) ∧ W2.drew.cell? ⟨yb, 1, none⟩ = some (.int .i64 y2) ∧ W2.drew.cell? ⟨yb, 2, none⟩ = some (.int .i64 y3) from ⟨a0, a1, a2, b0, b1, b2⟩)
  refine wp_region_pl (fun u => u.cell? ⟨xb, 0, none⟩ = some (.string x1) ∧ u.cell? ⟨xb, 1, none⟩ = some (.int .i64 x2) ∧ u.cell? ⟨xb, 2, none⟩ = some (.int .i64 x3) ∧ u.cell? ⟨yb, 0, none⟩ = some (.string y1) ∧ u.cell? ⟨yb, 1, none⟩ = some (.int .i64 y2) ∧ u.cell? ⟨yb, 2, none⟩ = some (.int .i64 y3)) [] (.rd 0 (.rd 1 (.rd 2 (.rd 3 (.rd 5 (.rd 6 (.rd 7 (.rd 8 (.rd 10 (.rd 11 (.rd 12 (.rd 13 (.one 4 (.one 9 (.one 14 (.one 15 (.one 16 (.one 17 .done)))))))))))))))))) (by kernel_rfl) (by kernel_rfl) (by kernel_rfl) (by kernel_rfl) (by intro c b d v u h; cases d <;> exact h) ?_
  clear a0 a1 a2 b0 b1 b2 bA2 bB
  first
    | refine pl_get (i := 0) rfl rfl HS.out rfl (fun u hu => by (try dsimp only at hu); go_simp; rfl) (by simp only [List.setIfInBounds_toArray, List.set_cons_succ, List.set_cons_zero]; rfl) ?_
    | refine pl_skip (i := 0) rfl rfl HS.out rfl (by simp only [List.setIfInBounds_toArray, List.set_cons_succ, List.set_cons_zero]; rfl) ?_
  first
    | refine pl_get (i := 1) rfl rfl HS.out rfl (fun u hu => by (try dsimp only at hu); go_simp; rfl) (by simp only [List.setIfInBounds_toArray, List.set_cons_succ, List.set_cons_zero]; rfl) ?_
    | refine pl_skip (i := 1) rfl rfl HS.out rfl (by simp only [List.setIfInBounds_toArray, List.set_cons_succ, List.set_cons_zero]; rfl) ?_
  first
    | refine pl_get (i := 2) rfl rfl HS.out rfl (fun u hu => by (try dsimp only at hu); go_simp; rfl) (by simp only [List.setIfInBounds_toArray, List.set_cons_succ, List.set_cons_zero]; rfl) ?_
    | refine pl_skip (i := 2) rfl rfl HS.out rfl (by simp only [List.setIfInBounds_toArray, List.set_cons_succ, List.set_cons_zero]; rfl) ?_
  first
    | refine pl_get (i := 3) rfl rfl HS.out rfl (fun u hu => by (try dsimp only at hu); go_simp; rfl) (by simp only [List.setIfInBounds_toArray, List.set_cons_succ, List.set_cons_zero]; rfl) ?_
    | refine pl_skip (i := 3) rfl rfl HS.out rfl (by simp only [List.setIfInBounds_toArray, List.set_cons_succ, List.set_cons_zero]; rfl) ?_
  first
    | refine pl_get (i := 5) rfl rfl HS.out rfl (fun u hu => by (try dsimp only at hu); go_simp; rfl) (by simp only [List.setIfInBounds_toArray, List.set_cons_succ, List.set_cons_zero]; rfl) ?_
    | refine pl_skip (i := 5) rfl rfl HS.out rfl (by simp only [List.setIfInBounds_toArray, List.set_cons_succ, List.set_cons_zero]; rfl) ?_
  first
    | refine pl_get (i := 6) rfl rfl HS.out rfl (fun u hu => by (try dsimp only at hu); go_simp; rfl) (by simp only [List.setIfInBounds_toArray, List.set_cons_succ, List.set_cons_zero]; rfl) ?_
    | refine pl_skip (i := 6) rfl rfl HS.out rfl (by simp only [List.setIfInBounds_toArray, List.set_cons_succ, List.set_cons_zero]; rfl) ?_
  first
    | refine pl_get (i := 7) rfl rfl HS.out rfl (fun u hu => by (try dsimp only at hu); go_simp; rfl) (by simp only [List.setIfInBounds_toArray, List.set_cons_succ, List.set_cons_zero]; rfl) ?_
    | refine pl_skip (i := 7) rfl rfl HS.out rfl (by simp only [List.setIfInBounds_toArray, List.set_cons_succ, List.set_cons_zero]; rfl) ?_
  first
    | refine pl_get (i := 8) rfl rfl HS.out rfl (fun u hu => by (try dsimp only at hu); go_simp; rfl) (by simp only [List.setIfInBounds_toArray, List.set_cons_succ, List.set_cons_zero]; rfl) ?_
    | refine pl_skip (i := 8) rfl rfl HS.out rfl (by simp only [List.setIfInBounds_toArray, List.set_cons_succ, List.set_cons_zero]; rfl) ?_
  first
    | refine pl_get (i := 10) rfl rfl HS.out rfl (fun u hu => by (try dsimp only at hu); go_simp; rfl) (by simp only [List.setIfInBounds_toArray, List.set_cons_succ, List.set_cons_zero]; rfl) ?_
    | refine pl_skip (i := 10) rfl rfl HS.out rfl (by simp only [List.setIfInBounds_toArray, List.set_cons_succ, List.set_cons_zero]; rfl) ?_
  first
    | refine pl_get (i := 11) rfl rfl HS.out rfl (fun u hu => by (try dsimp only at hu); go_simp; rfl) (by simp only [List.setIfInBounds_toArray, List.set_cons_succ, List.set_cons_zero]; rfl) ?_
    | refine pl_skip (i := 11) rfl rfl HS.out rfl (by simp only [List.setIfInBounds_toArray, List.set_cons_succ, List.set_cons_zero]; rfl) ?_
  first
    | refine pl_get (i := 12) rfl rfl HS.out rfl (fun u hu => by (try dsimp only at hu); go_simp; rfl) (by simp only [List.setIfInBounds_toArray, List.set_cons_succ, List.set_cons_zero]; rfl) ?_
    | refine pl_skip (i := 12) rfl rfl HS.out rfl (by simp only [List.setIfInBounds_toArray, List.set_cons_succ, List.set_cons_zero]; rfl) ?_
  first
    | refine pl_get (i := 13) rfl rfl HS.out rfl (fun u hu => by (try dsimp only at hu); go_simp; rfl) (by simp only [List.setIfInBounds_toArray, List.set_cons_succ, List.set_cons_zero]; rfl) ?_
    | refine pl_skip (i := 13) rfl rfl HS.out rfl (by simp only [List.setIfInBounds_toArray, List.set_cons_succ, List.set_cons_zero]; rfl) ?_
  refine pl_one (i := 4) rfl ?_
  go_wp2_with ((go_at_call 27; refine (h1 _).mono ?_; rintro _ wz ⟨rfl, rfl⟩))
  refine pl_next (fun _ => HS.out) ?_
  refine pl_one (i := 9) rfl ?_
  go_wp2_with ((go_at_call 28; refine (h2 _).mono ?_; rintro _ wz ⟨rfl, rfl⟩))
  refine pl_next (fun _ => HS.out) ?_
  refine pl_one (i := 14) rfl ?_
  go_wp2_with ((go_at_call 28; refine (h3 _).mono ?_; rintro _ wz ⟨rfl, rfl⟩))
  refine pl_next (fun _ => HS.out) ?_
  refine pl_one (i := 15) rfl ?_
  go_wp2_with (fail)
  have kC : Keep NoB W2.drew (W2.drew.alloc (.cells #[.int .i64 r1, .int .i64 r2, .int .i64 r3] 3)) := (Keep.refl NoB _).alloc _
  have bC := blk_new W2.drew (.cells #[.int .i64 r1, .int .i64 r2, .int .i64 r3] 3)
  have HS2 := Lib.hid (ks6 HS.out kC)
  refine pl_next (fun _ => HS2.out) ?_
  refine pl_one (i := 16) rfl ?_
  go_wp2_with ((go_at_call 26; refine (or_any _ r1 r2 r3 _ bC).mono ?_; rintro _ wz ⟨rfl, rfl⟩))
  refine pl_next (fun _ => HS2.out) ?_
  refine pl_one (i := 17) rfl ?_
  go_wp2_with (fail)
  refine pl_next (fun _ => HS2.out) ?_
  refine pl_done ?_
  go_wp2
  go_ret
  exact ⟨rfl, 1, _, by rw [← HW2.out, alloc_eq_grow, alloc_eq_grow, alloc_eq_grow, grow_grow, grow_grow]; rfl⟩
end Go.Proofs.Ytgangbkompkidaa
