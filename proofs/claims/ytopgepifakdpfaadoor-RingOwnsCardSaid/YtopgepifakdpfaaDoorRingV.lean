/- The order of the points; what the sorts of package ring come to. -/
import Derived.Test.YtopgepifakdpfaaDoorRingW
import Derived.Test.YtopgepifakdpfaaDoorLibSort
import Derived.Test.YtopgepifakdpfaaDoorShelf
namespace Go.Proofs.YtopgepifakdpfaaDoor
open Go Go.RowKit Go.Maps Go.Sort

abbrev PT := Int × BA
def pCells (x : PT) : List Value := [.int .u64 x.1, .string x.2]
theorem pCells_len (x : PT) : (pCells x).length = 2 := rfl
theorem pCells_one (x : PT) : ∀ u ∈ pCells x, u.oneCell' = true := by
  intro u hu
  simp [pCells] at hu
  rcases hu with rfl | rfl <;> rfl
instance : Inhabited PT := ⟨(0, ⟨#[]⟩)⟩
theorem info61' : (Tryd.prog.info? 61).map (fun i => (i.zero, i.size, i.bytes)) = some (some (.agg #[.int .u64 0, .string ⟨#[]⟩]), 2, 24) := by kernel_rfl
theorem info9' : (Tryd.prog.info? 9).map (fun i => (i.zero, i.size, i.bytes)) = some (some (.string ⟨#[]⟩), 1, 16) := by kernel_rfl

def cmpI (a b : Int) : Int := if a < b then -1 else if b < a then 1 else 0
theorem cmp_u64 (a b : Int) (w : World) : Calls Tryd.prog 37 #[.int .u64 a, .int .u64 b] w fun e w' => e = .returned (.int .i64 (cmpI a b)) ∧ w = w' := by
  unfold cmpI
  by_cases h1 : a < b
  · rw [if_pos h1]
    have d1 : decide (a < b) = true := by simpa using h1
    go_enter Tryd.func37, Tryd.ntmps37
    go_wp2
    go_ret
    exact ⟨rfl, rfl⟩
  · have d1 : decide (a < b) = false := by simpa using h1
    rw [if_neg h1]
    by_cases h2 : b < a
    · rw [if_pos h2]
      have d2 : decide (b < a) = true := by simpa using h2
      go_enter Tryd.func37, Tryd.ntmps37
      go_wp2
      go_ret
      exact ⟨rfl, rfl⟩
    · rw [if_neg h2]
      have d2 : decide (b < a) = false := by simpa using h2
      go_enter Tryd.func37, Tryd.ntmps37
      go_wp2
      go_ret
      exact ⟨rfl, rfl⟩
def cmpS (a b : ByteArray) : Int := if bs a < bs b then -1 else if bs b < bs a then 1 else 0
theorem cmp_str (a b : ByteArray) (w : World) : Calls Tryd.prog 38 #[.string a, .string b] w fun e w' => e = .returned (.int .i64 (cmpS a b)) ∧ w = w' := by
  unfold cmpS
  by_cases h1 : bs a < bs b
  · rw [if_pos h1]
    have d1 := tx_lt h1
    clear h1
    go_enter Tryd.func38, Tryd.ntmps38
    go_wp2
    go_ret
    exact ⟨rfl, rfl⟩
  · have d1 := tx_nlt h1
    rw [if_neg h1]
    by_cases h2 : bs b < bs a
    · rw [if_pos h2]
      have hne : a ≠ b := fun e => by rw [e] at h2; exact List.lt_irrefl _ h2
      have d2 := tx_ne hne
      clear h1 h2 hne
      go_enter Tryd.func38, Tryd.ntmps38
      go_wp2
      go_ret
      exact ⟨rfl, rfl⟩
    · rw [if_neg h2]
      by_cases he : a = b
      · subst he
        have d2 : (a.toList == a.toList) = true := by simp
        clear h1 h2
        go_enter Tryd.func38, Tryd.ntmps38
        go_wp2
        go_ret
        exact ⟨rfl, rfl⟩
      · exact absurd (bs_tri h1 he) h2
def orI (x y : Int) : Int := if x = 0 then y else x
theorem or_any (b : Nat) (x y : Int) (w : World) (hb : w.heap[b]? = some (.cells #[.int .i64 x, .int .i64 y] 3 (0, 0))) :
    Calls Tryd.prog 36 #[.slice (some ⟨b, 0, none⟩) 2 2] w fun e w' => e = .returned (.int .i64 (orI x y)) ∧ w = w' := by
  have c0 := blk_cell hb 0
  have c1 := blk_cell hb 1
  have hlt := blk_lt hb
  simp at c0 c1
  clear hb
  unfold orI
  by_cases hx : x = 0
  · subst hx
    rw [if_pos rfl]
    by_cases hy : y = 0
    · subst hy
      go_enter Tryd.func36, Tryd.ntmps36
      go_wp2_with fail
      go_loopw [8] (fun iv wr => ∃ k : Nat, k ≤ 2 ∧ iv = .int .i64 (k : Int) ∧ wr = w) (fun iv _ => 2 - (intOf iv).toNat)
      case atStart => exact ⟨0, by omega, rfl, rfl⟩
      case round =>
        obtain ⟨k, hk, rfl, rfl⟩ := hrel
        rcases (by omega : k = 0 ∨ k = 1 ∨ k = 2) with rfl | rfl | rfl
        · go_wp2_with fail
          go_roundw
          case rel => exact ⟨1, by omega, rfl, trivial⟩
          case measure => simp [intOf]
        · go_wp2_with fail
          go_roundw
          case rel => exact ⟨2, by omega, rfl, trivial⟩
          case measure => simp [intOf]
        · go_wp2
          go_ret
          exact ⟨rfl, rfl⟩
    · have hq : (y != 0) = true := by simpa using hy
      clear hy
      go_enter Tryd.func36, Tryd.ntmps36
      go_wp2_with fail
      go_loopw [8] (fun iv wr => ∃ k : Nat, k ≤ 1 ∧ iv = .int .i64 (k : Int) ∧ wr = w) (fun iv _ => 2 - (intOf iv).toNat)
      case atStart => exact ⟨0, by omega, rfl, rfl⟩
      case round =>
        obtain ⟨k, hk, rfl, rfl⟩ := hrel
        rcases (by omega : k = 0 ∨ k = 1) with rfl | rfl
        · go_wp2_with fail
          go_roundw
          case rel => exact ⟨1, by omega, rfl, trivial⟩
          case measure => simp [intOf]
        · go_wp2
          go_ret
          exact ⟨rfl, rfl⟩
  · have hq : (x != 0) = true := by simpa using hx
    rw [if_neg hx]
    clear hx
    go_enter Tryd.func36, Tryd.ntmps36
    go_wp2_with fail
    go_loopw [8] (fun iv wr => iv = .int .i64 0 ∧ wr = w) (fun iv _ => 2 - (intOf iv).toNat)
    case atStart => exact ⟨rfl, rfl⟩
    case round =>
      obtain ⟨rfl, rfl⟩ := hrel
      go_wp2
      go_ret
      exact ⟨rfl, rfl⟩

def cfP (x y : PT) : Int := orI (cmpI x.1 y.1) (cmpS x.2 y.2)
theorem closure_any (x y : PT) (W : World) : Calls Tryd.prog 35 #[.agg (pCells x).toArray, .agg (pCells y).toArray] W fun e w' => e = .returned (.int .i64 (cfP x y)) ∧ ∃ q os', w' = grow (W.drewN q) os' := by
  have h1 := fun W' => cmp_u64 x.1 y.1 W'
  have h2 := fun W' => cmp_str x.2 y.2 W'
  unfold cfP
  generalize cmpI x.1 y.1 = r1 at h1 ⊢
  generalize cmpS x.2 y.2 = r2 at h2 ⊢
  obtain ⟨x1, x2⟩ := x
  obtain ⟨y1, y2⟩ := y
  simp only [pCells] at h1 h2 ⊢
  go_enter Tryd.func35, Tryd.ntmps35
  go_wp2_with fail
  have bA := blk_new W (.cells #[.int .u64 x1, .string x2] 61)
  have bB := blk_new (W.alloc (.cells #[.int .u64 x1, .string x2] 61)) (.cells #[.int .u64 y1, .string y2] 61)
  have bA2 := blk_alloc (o' := (.cells #[.int .u64 y1, .string y2] 61)) bA
  obtain ⟨xb, hxb⟩ : ∃ t, W.heap.size = t := ⟨_, rfl⟩
  obtain ⟨yb, hyb⟩ : ∃ t, (W.alloc (.cells #[.int .u64 x1, .string x2] 61)).heap.size = t := ⟨_, rfl⟩
  have hyb' : W.heap.size + 1 = yb := by rw [← hyb]; simp
  rw [hyb] at bB
  rw [hyb', hxb]
  rw [hxb] at bA2
  obtain ⟨W2, hW2⟩ : ∃ W2, (W.alloc (.cells #[.int .u64 x1, .string x2] 61)).alloc (.cells #[.int .u64 y1, .string y2] 61) = W2 := ⟨_, rfl⟩
  rw [hW2] at bA2 bB ⊢
  have HW2 := Lib.hid hW2
  clear bA hxb hyb hyb' hW2
  have a0 := blk_cell bA2 0
  have a1 := blk_cell bA2 1
  have b0 := blk_cell bB 0
  have b1 := blk_cell bB 1
  simp at a0 a1 b0 b1
  have HS := Lib.hid (show W2.drew.cell? ⟨xb, 0, none⟩ = some (.int .u64 x1) ∧ W2.drew.cell? ⟨xb, 1, none⟩ = some (.string x2) ∧ W2.drew.cell? ⟨yb, 0, none⟩ = some (.int .u64 y1) ∧ W2.drew.cell? ⟨yb, 1, none⟩ = some (.string y2) from ⟨a0, a1, b0, b1⟩)
  refine wp_region_pl (fun u => u.cell? ⟨xb, 0, none⟩ = some (.int .u64 x1) ∧ u.cell? ⟨xb, 1, none⟩ = some (.string x2) ∧ u.cell? ⟨yb, 0, none⟩ = some (.int .u64 y1) ∧ u.cell? ⟨yb, 1, none⟩ = some (.string y2)) [] (.rd 0 (.rd 1 (.rd 2 (.rd 3 (.rd 5 (.rd 6 (.rd 7 (.rd 8 (.one 4 (.one 9 (.one 10 (.one 11 (.one 12 .done))))))))))))) (by kernel_rfl) (by kernel_rfl) (by kernel_rfl) (by kernel_rfl) (by intro c b d v u h; cases d <;> exact h) ?_
  clear a0 a1 b0 b1 bA2 bB
  first
    | refine pl_get (i := 0) rfl rfl HS.out rfl (fun u hu => by (try dsimp only at hu); go_simp; rfl) (by simp only [List.setIfInBounds_toArray, List.set_cons_succ, List.set_cons_zero]; rfl) ?_
    | refine pl_skip (i := 0) rfl rfl HS.out rfl (by simp only [List.setIfInBounds_toArray, List.set_cons_succ, List.set_cons_zero]; rfl) ?_
  first
    | refine pl_get (i := 1) rfl rfl HS.out rfl (fun u hu => by (try dsimp only at hu); go_simp; rfl) (by simp only [List.setIfInBounds_toArray, List.set_cons_succ, List.set_cons_zero]; rfl) ?_
    | refine pl_skip (i := 1) rfl rfl HS.out rfl (by simp only [List.setIfInBounds_toArray, List.set_cons_succ, List.set_cons_zero]; rfl) ?_
  first
    | refine pl_get (i := 2) rfl rfl HS.out rfl (fun u hu => by (try dsimp only at hu); go_simp; rfl) (by simp only [List.setIfInBounds_toArray, List.set_cons_succ, List.set_cons_zero]; rfl) ?_
    | refine pl_skip (i := 2) rfl rfl HS.out rfl (by simp only [List.setIfInBounds_toArray, List.set_cons_succ, List.set_cons_zero]; rfl) ?_
  first
    | refine pl_get (i := 3) rfl rfl HS.out rfl (fun u hu => by (try dsimp only at hu); go_simp; rfl) (by simp only [List.setIfInBounds_toArray, List.set_cons_succ, List.set_cons_zero]; rfl) ?_
    | refine pl_skip (i := 3) rfl rfl HS.out rfl (by simp only [List.setIfInBounds_toArray, List.set_cons_succ, List.set_cons_zero]; rfl) ?_
  first
    | refine pl_get (i := 5) rfl rfl HS.out rfl (fun u hu => by (try dsimp only at hu); go_simp; rfl) (by simp only [List.setIfInBounds_toArray, List.set_cons_succ, List.set_cons_zero]; rfl) ?_
    | refine pl_skip (i := 5) rfl rfl HS.out rfl (by simp only [List.setIfInBounds_toArray, List.set_cons_succ, List.set_cons_zero]; rfl) ?_
  first
    | refine pl_get (i := 6) rfl rfl HS.out rfl (fun u hu => by (try dsimp only at hu); go_simp; rfl) (by simp only [List.setIfInBounds_toArray, List.set_cons_succ, List.set_cons_zero]; rfl) ?_
    | refine pl_skip (i := 6) rfl rfl HS.out rfl (by simp only [List.setIfInBounds_toArray, List.set_cons_succ, List.set_cons_zero]; rfl) ?_
  first
    | refine pl_get (i := 7) rfl rfl HS.out rfl (fun u hu => by (try dsimp only at hu); go_simp; rfl) (by simp only [List.setIfInBounds_toArray, List.set_cons_succ, List.set_cons_zero]; rfl) ?_
    | refine pl_skip (i := 7) rfl rfl HS.out rfl (by simp only [List.setIfInBounds_toArray, List.set_cons_succ, List.set_cons_zero]; rfl) ?_
  first
    | refine pl_get (i := 8) rfl rfl HS.out rfl (fun u hu => by (try dsimp only at hu); go_simp; rfl) (by simp only [List.setIfInBounds_toArray, List.set_cons_succ, List.set_cons_zero]; rfl) ?_
    | refine pl_skip (i := 8) rfl rfl HS.out rfl (by simp only [List.setIfInBounds_toArray, List.set_cons_succ, List.set_cons_zero]; rfl) ?_
  refine pl_one (i := 4) rfl ?_
  go_wp2_with ((go_at_call 37; refine (h1 _).mono ?_; rintro _ wz ⟨rfl, rfl⟩))
  refine pl_next (fun _ => HS.out) ?_
  refine pl_one (i := 9) rfl ?_
  go_wp2_with ((go_at_call 38; refine (h2 _).mono ?_; rintro _ wz ⟨rfl, rfl⟩))
  refine pl_next (fun _ => HS.out) ?_
  refine pl_one (i := 10) rfl ?_
  go_wp2_with (fail)
  have kC : Keep NoB W2.drew (W2.drew.alloc (.cells #[.int .i64 r1, .int .i64 r2] 3)) := (Keep.refl NoB _).alloc _
  have bC := blk_new W2.drew (.cells #[.int .i64 r1, .int .i64 r2] 3)
  have HS2 := Lib.hid (ks4 HS.out kC)
  refine pl_next (fun _ => HS2.out) ?_
  refine pl_one (i := 11) rfl ?_
  go_wp2_with ((go_at_call 36; refine (or_any _ r1 r2 _ bC).mono ?_; rintro _ wz ⟨rfl, rfl⟩))
  refine pl_next (fun _ => HS2.out) ?_
  refine pl_one (i := 12) rfl ?_
  go_wp2_with (fail)
  refine pl_next (fun _ => HS2.out) ?_
  refine pl_done ?_
  go_wp2
  go_ret
  exact ⟨rfl, 1, _, by rw [← HW2.out, alloc_eq_grow, alloc_eq_grow, alloc_eq_grow, grow_grow, grow_grow]; rfl⟩

theorem cmpI_neg (a b : Int) : cmpI a b < 0 ↔ a < b := by
  unfold cmpI
  by_cases h : a < b
  · simp [h]
  · by_cases h2 : b < a <;> simp [h, h2]
theorem cmpI_zero (a b : Int) : cmpI a b = 0 ↔ a = b := by
  unfold cmpI
  by_cases h : a < b
  · simp [h]; omega
  · by_cases h2 : b < a
    · simp [h, h2]; omega
    · simp [h, h2]; omega
theorem cmpS_neg (a b : ByteArray) : cmpS a b < 0 ↔ bs a < bs b := by
  unfold cmpS
  by_cases h : bs a < bs b
  · simp [h]
  · by_cases h2 : bs b < bs a <;> simp [h, h2]
theorem lt_cfP (x y : PT) : Go.Proofs.ltOf cfP x y = ltP x y := by
  unfold Go.Proofs.ltOf cfP orI ltP
  have h1 := cmpI_zero x.1 y.1
  have h2 := cmpI_neg x.1 y.1
  have h3 := cmpS_neg x.2 y.2
  by_cases e1 : cmpI x.1 y.1 = 0
  · have e1' := h1.1 e1
    simp only [e1, if_true]
    refine decide_eq_decide.2 ?_
    rw [h3]
    constructor
    · intro h; exact Or.inr ⟨e1', h⟩
    · rintro (h | ⟨_, h⟩)
      · omega
      · exact h
  · simp only [e1, if_false]
    refine decide_eq_decide.2 ?_
    rw [h2]
    constructor
    · intro h; exact Or.inl h
    · rintro (h | ⟨h, _⟩)
      · exact h
      · exact absurd (h1.2 h) e1
def pltP (x y : PT) : Prop := x.1 < y.1 ∨ (x.1 = y.1 ∧ bs x.2 < bs y.2)
theorem ltP_iff (x y : PT) : ltP x y = true ↔ pltP x y := by unfold ltP pltP; exact decide_eq_true_iff
theorem plt_tri {x y : PT} (h1 : ¬ pltP x y) (h2 : ¬ pltP y x) : x = y := by
  unfold pltP at h1 h2
  have e1 : x.1 = y.1 := by omega
  refine Prod.ext e1 ?_
  by_cases e : x.2 = y.2
  · exact e
  · rcases bs_total e with h | h
    · exact absurd (Or.inr ⟨e1, h⟩) h1
    · exact absurd (Or.inr ⟨e1.symm, h⟩) h2
theorem plt_trans {x y z : PT} (h1 : pltP x y) (h2 : pltP y z) : pltP x z := by
  rcases h1 with h1 | ⟨h1, h1'⟩ <;> rcases h2 with h2 | ⟨h2, h2'⟩
  · exact Or.inl (by omega)
  · exact Or.inl (by omega)
  · exact Or.inl (by omega)
  · exact Or.inr ⟨by omega, List.lt_trans h1' h2'⟩
theorem plt_irr (x : PT) : ¬ pltP x x := by
  rintro (h | ⟨_, h⟩)
  · omega
  · exact bs_irr _ h
theorem swoP : SWO (Go.Proofs.ltOf cfP) where
  irrefl x := by
    rw [lt_cfP]
    cases h : ltP x x with
    | false => rfl
    | true => exact absurd ((ltP_iff x x).1 h) (plt_irr x)
  trans x y z h1 h2 := by
    rw [lt_cfP] at *
    exact (ltP_iff x z).2 (plt_trans ((ltP_iff x y).1 h1) ((ltP_iff y z).1 h2))
  ntrans x y z h1 h2 := by
    rw [lt_cfP] at *
    have n1 : ¬ pltP x y := fun h => by rw [(ltP_iff x y).2 h] at h1; cases h1
    have n2 : ¬ pltP y z := fun h => by rw [(ltP_iff y z).2 h] at h2; cases h2
    cases h : ltP x z with
    | false => rfl
    | true =>
      exfalso
      have h3 := (ltP_iff x z).1 h
      by_cases h4 : pltP y x
      · exact n2 (plt_trans h4 h3)
      · rw [plt_tri n1 h4] at h3
        exact n2 h3
/-- The sort of the points, over a slice of the call's own. -/
theorem sortP_any (w : World) (B : Nat) (a : Option Addr) (c : Nat) (N : List PT) (O : Own w B 61 2 pCells (.slice a N.length c) N) (hN : N.length ≤ 1000000) :
    Calls Tryd.prog 34 #[.slice a N.length c, .func (.func 35) #[] #[]] w fun e w' => e = .returned (.tuple #[]) ∧ ∃ M : List PT, N.Perm M ∧ M.Pairwise (fun x y => ltP y x = false) ∧ Own w' B 61 2 pCells (.slice a M.length c) M ∧ Keep (fun g => (Value.slice a N.length c).ownBlock = some g) w w' := by
  by_cases h0 : N = []
  · subst h0
    have hcon := AnyF.slices_SortFunc_none Tryd.sortPts a c (.func (.func 35) #[] #[]) w
    change Calls Tryd.prog 34 _ _ _ at hcon
    refine hcon.mono ?_
    rintro _ _ ⟨rfl, rfl⟩
    exact ⟨rfl, [], List.Perm.refl _, List.Pairwise.nil, O, Keep.refl _ _⟩
  · obtain ⟨g, rfl, hg1, hg2⟩ := O.some h0
    have eg : ∀ args w, (callFunc 35 args).run Tryd.prog w = .ok (.enter 35 args) w := Go.Proofs.enters_of Tryd.func35 (by kernel_rfl) rfl
    have hcon := AnyQ.slices_SortFunc Tryd.sortPts 2 Tryd.isAgg61 Tryd.sizeOf61 pCells pCells_len (fun x v hv => pCells_one x v hv) cfP swoP 35 #[] g 0 c N.toArray w eg (fun _ _ _ _ x y => closure_any x y _) (O.holdsK pCells_len) hg2 (by simp; omega)
    change Calls Tryd.prog 34 _ _ _ at hcon
    refine hcon.mono ?_
    rintro _ _ ⟨rfl, d', n, os, hpp, hss, rfl⟩
    have hd : d'.size = N.length := by simpa using hpp.1
    obtain ⟨O', K'⟩ := O.sorted pCells_len hd n os
    obtain ⟨hsz, _, hperm⟩ := hpp
    have hP : N.Perm d'.toList := by
      have e1 : d'.extract 0 N.toArray.size = d' := by rw [← hsz]; simp
      have e2 : N.toArray.extract 0 N.toArray.size = N.toArray := by simp
      rw [e1, e2] at hperm
      exact (by simpa using hperm : d'.toList.Perm N).symm
    have hS : d'.toList.Pairwise (fun x y => ltP y x = false) := by
      rw [List.pairwise_iff_getElem]
      intro i j hi hj hij
      have hi' : i < d'.size := by simpa using hi
      have hj' : j < d'.size := by simpa using hj
      have := hss i j (Nat.zero_le _) hij (by rw [← hsz]; exact hj')
      rw [getElem!_pos d' i hi', getElem!_pos d' j hj', lt_cfP] at this
      simpa using this
    have hl : N.length = d'.toList.length := hP.length_eq
    rw [hl] at O'
    exact ⟨rfl, d'.toList, hP, hS, O', K'.mono (fun i h => by have : i = g := h; rw [this]; rfl)⟩

/-- The sort of the nodes. -/
theorem sortN_any (w : World) (B : Nat) (a : Option Addr) (c : Nat) (N M : List ByteArray) (O : Own w B 9 1 cS (.slice a N.length c) N) (hN : N.length ≤ 1000000) (hp : N.Perm M) (hr : M.Pairwise (fun x y => bs x < bs y)) :
    Calls Tryd.prog 20 #[.slice a N.length c] w fun e w' => e = .returned (.tuple #[]) ∧ Own w' B 9 1 cS (.slice a M.length c) M ∧ Keep (fun g => (Value.slice a N.length c).ownBlock = some g) w w' := by
  have hMl : N.length = M.length := hp.length_eq
  by_cases h0 : N = []
  · subst h0
    have hM : M = [] := by simpa using hp
    subst hM
    have hcon := Any.slices_Sort_string_none Tryd.laysSort a c w
    change Calls Tryd.prog 20 _ _ _ at hcon
    refine hcon.mono ?_
    rintro _ _ ⟨rfl, rfl⟩
    exact ⟨rfl, O, Keep.refl _ _⟩
  · obtain ⟨g, rfl, hg1, hg2⟩ := O.some h0
    have hcon := Any.slices_Sort_string Tryd.laysSort g 0 c (N.map bs) w O.holdsS hg2 (by simp; omega)
    rw [sortS_eq hp hr] at hcon
    change Calls Tryd.prog 20 _ _ _ at hcon
    rw [List.length_map] at hcon
    refine hcon.mono ?_
    rintro _ _ ⟨rfl, n, os, rfl⟩
    obtain ⟨O', K'⟩ := O.sortedS hMl.symm n os
    rw [hMl] at O'
    exact ⟨rfl, O', K'.mono (fun i h => by have : i = g := h; rw [this]; rfl)⟩
end Go.Proofs.YtopgepifakdpfaaDoor
