/- The walk of RingOrder. -/
import Derived.Test.YtopgepifakdpfaaDoorRingOrderQ
namespace Go.Proofs.YtopgepifakdpfaaDoor
open Go Go.RowKit Go.Maps Go.Sort
set_option maxRecDepth 100000



set_option maxHeartbeats 16000000 in
theorem order_walk (a0 : Option Addr) (l0 c0 : Nat) (z0 : Nat → BA) (t : Int) (key : BA) (w : World) (hN : RdS w a0 ((List.range l0).map z0)) (hz : l0 ≤ 9223372036854775807) (hcap : l0 ≤ c0) (hsz : ∀ i, i < l0 → (z0 i).size ≤ 140737488355328) (ht : -9223372036854775808 ≤ t ∧ t ≤ 9223372036854775807) (hks : key.size ≤ maxLen) :
    Calls Tryd.prog 3 #[.slice a0 l0 c0, .int .i64 t, .string key] w fun e w' => e = .returned (.bool true) ∧ Below w.heap.size w w' := by
  obtain ⟨N, hNe⟩ : ∃ N, (List.range l0).map z0 = N := ⟨_, rfl⟩
  have hNl : N.length = l0 := by rw [← hNe]; simp
  have hNs : ∀ x ∈ N, x.size ≤ 140737488355328 := by
    intro x hx
    rw [← hNe] at hx
    obtain ⟨i, hi, rfl⟩ := List.mem_map.1 hx
    exact hsz i (List.mem_range.1 hi)
  rw [hNe] at hN
  have HN := Lib.hid hN
  have HNs := Lib.hid hNs
  have HNl := Lib.hid hNl
  clear hN hNs hsz hNe z0 hNl
  go_enter Tryd.func3, Tryd.ntmps3
  go_wp2_with fail
  refine (awake_any _).mono ?_
  rintro _ w0 ⟨rfl, k0⟩
  have Hk0 := Lib.hid k0
  clear k0
  go_wp2_with fail
  refine (by have := short_any w0 a0 c0 N key (HN.out.keep0 Hk0.out) (by rw [HNl.out]; exact hz); rw [HNl.out] at this; exact this : Calls Tryd.prog 9 #[.slice a0 l0 c0, .string key] w0 fun e w' => ∃ v, e = .returned (.bool v) ∧ (v = true → l0 ≤ 100) ∧ Keep NoB w0 w').mono ?_
  rintro _ w1 ⟨v1, rfl, hv1, k1⟩
  have Hk1 := Lib.hid (Hk0.out.trans k1)
  have Hv1 := Lib.hid hv1
  clear hv1 k1
  cases v1
  · go_wp2_with fail
    go_ret
    exact ⟨rfl, Hk1.out.below (fun _ _ h => h)⟩
  by_cases hl8 : 8 < l0
  · have d1 : decide ((8 : Int) < (l0 : Int)) = true := decide_eq_true (by omega)
    go_wp2_with fail
    go_ret
    exact ⟨rfl, Hk1.out.below (fun _ _ h => h)⟩
  have d1 : decide ((8 : Int) < (l0 : Int)) = false := decide_eq_false (by omega)
  by_cases h00 : l0 = 0
  · have d2 : ((l0 : Int) == 0) = true := by rw [h00]; rfl
    go_wp2_with fail
    go_ret
    exact ⟨rfl, Hk1.out.below (fun _ _ h => h)⟩
  have d2 : ((l0 : Int) == 0) = false := by simp; exact h00
  obtain ⟨u, hu⟩ : ∃ u, IntKind.u64.wrap t = u := ⟨_, rfl⟩
  have hur : 0 ≤ u ∧ u < 18446744073709551616 := by rw [← hu]; exact u64_rng t
  obtain ⟨kn, hkn, hkl⟩ : ∃ kn : Nat, Int.tmod u (l0 : Int) = (kn : Int) ∧ kn < l0 := by
    refine ⟨(u % (l0 : Int)).toNat, ?_, ?_⟩
    · rw [Int.tmod_eq_emod_of_nonneg hur.1]
      have := Int.emod_nonneg u (b := (l0 : Int)) (by omega)
      omega
    · have := Int.emod_nonneg u (b := (l0 : Int)) (by omega)
      have := Int.emod_lt_of_pos u (b := (l0 : Int)) (by omega)
      omega
  have f1 : IntKind.u64.wrap (l0 : Int) = (l0 : Int) := by rw [IntKind.wrap_u64]; omega
  have f2 : IntKind.u64.wrap (kn : Int) = (kn : Int) := by rw [IntKind.wrap_u64]; omega
  have f3 : IntKind.i64.wrap (kn : Int) = (kn : Int) := by rw [IntKind.wrap_i64]; omega
  have HsD := Lib.hid (rds_drop (HN.out.keep0 Hk1.out) kn (c0 - kn) HNl.out)
  have Hhb := Lib.hid (Nat.le_refl w1.heap.size)
  obtain ⟨X, hX⟩ : ∃ X, N.drop kn = X := ⟨_, rfl⟩
  have hXl : X.length ≤ 8 := by rw [← hX, List.length_drop, HNl.out]; omega
  have HX := Lib.hid hX
  have HXl := Lib.hid hXl
  clear hX hXl
  obtain ⟨Y, hY⟩ : ∃ Y, N.take kn = Y := ⟨_, rfl⟩
  obtain ⟨F, hF⟩ : ∃ F, X ++ Y = F := ⟨_, rfl⟩
  have hFp : F.Perm N := by rw [← hF, ← hY, ← HX.out]; exact turn_perm N kn
  have hFl : F.length = l0 := by rw [hFp.length_eq, HNl.out]
  have hYl : Y.length ≤ 8 := by rw [← hY, List.length_take, HNl.out]; omega
  have HY := Lib.hid hY
  have HF := Lib.hid hF
  have HFp := Lib.hid hFp
  have HYl := Lib.hid hYl
  have HFl := Lib.hid hFl
  clear hY hF hFp hYl hFl
  go_wp2_with (first
    | (at_builtin
       (refine wpList_append_sub rfl (.tmp 35) (.tmp 38) 22 rfl Tryd.underlying22 info9' (by kernel_rfl) (by decide) (by decide) rfl (Own.empty w1 (Nat.le_refl _) 9 1 cS) cS_len cS_one rfl (by have := HsD.out.keep ((Keep.refl NoB w1).alloc (.cells #[] 9)); rw [HX.out] at this; exact this) (by have := HXl.out; simp; omega) (by simp) (List.nil_append X) ?_)
       intro a2 c2 w2 O2 k2
       have k22 : Keep NoB w1 w2 := (Own.empty w1 (Nat.le_refl _) 9 1 cS).knob ((Keep.refl NoB w1).alloc _) k2
       have HO2 := Lib.hid O2
       have Hk2 := Lib.hid k22
       have HsT := Lib.hid (rds_takeS (HN.out.keep0 (Hk1.out.trans k22)) (i := kn) (by rw [HNl.out]; omega) c0)
       clear O2 k2 k22
       skip)
    | (at_builtin
       (refine wpList_append_sub rfl (.tmp 40) (.tmp 43) 22 rfl Tryd.underlying22 info9' (by kernel_rfl) (by decide) (by decide) rfl HO2.out cS_len cS_one rfl (by have := HsT.out; rw [HY.out] at this; exact this) (by have := HXl.out; have := HYl.out; omega) (by have := Hk2.out.size; omega) HF.out ?_)
       intro a3 c3 w3 O3 k3
       have k33 : Keep NoB w1 w3 := HO2.out.knob Hk2.out k3
       have Hk3 := Lib.hid k33
       rw [HFl.out] at O3
       try rw [HFl.out]
       have HO3 := Lib.hid O3
       clear k33 O3 k3
       skip))
  have hq : Int.tdiv (l0 : Int) 2 = ((l0 / 2 : Nat) : Int) := by rw [Int.tdiv_eq_ediv_of_nonneg (by omega)]; omega
  obtain ⟨hf, hhf⟩ : ∃ q, l0 / 2 = q := ⟨_, rfl⟩
  rw [hhf] at hq
  obtain ⟨sh1, sh2⟩ | ⟨gb, rfl, hgb, hgl⟩ := HO3.out.shape2
  · exact absurd HFl.out (by rw [sh2.2]; simp; omega)
  obtain ⟨bt, hbt⟩ : ∃ q, (bits .and .i64 t 1 == 1) = q := ⟨_, rfl⟩
  have Hgb := Lib.hid hgb
  clear hu hur hkn f1 f2 f3 HsT HX HY HF HXl HYl Hhb HO2 Hk2 hgl hgb HFl
  go_loopw [9] (fun iv wr => ∃ (i : Nat) (M : List BA), i ≤ hf ∧ iv = .int .i64 (i : Int) ∧ M.Perm N ∧ Own wr w1.heap.size 9 1 cS (.slice (some ⟨gb, 0, none⟩) l0 c3) M ∧ Keep NoB w1 wr) (fun iv _ => hf - (intOf iv).toNat)
  case atStart => exact ⟨0, F, Nat.zero_le _, rfl, HFp.out, HO3.out, Hk3.out⟩
  case round =>
    clear HO3 Hk3 HFp
    obtain ⟨i, M, hi, rfl, hMp, OM, hkr⟩ := hrel
    have HMp := Lib.hid hMp
    have HOM := Lib.hid OM
    have Hkr := Lib.hid hkr
    have hMl : M.length = l0 := by rw [hMp.length_eq, HNl.out]
    have HMl := Lib.hid hMl
    clear hMp OM hkr
    by_cases hgo : i < hf
    · have d3 : decide ((i : Int) < (hf : Int)) = true := decide_eq_true (by omega)
      have hw1 : IntKind.i64.wrap ((i : Int) + 1) = (i : Int) + 1 := IntWalk.i64_in _ (by omega)
      cases bt
      · clear hMl
        go_wp2_with fail
        go_roundw
        case rel => exact ⟨i + 1, M, hgo, by go_num, HMp.out, HOM.out, Hkr.out⟩
        case measure => simp [intOf]; omega
      · obtain ⟨x, hx⟩ : ∃ x, M[i]? = some x := ⟨_, List.getElem?_eq_getElem (by omega)⟩
        obtain ⟨j, hj⟩ : ∃ j, l0 - 1 - i = j := ⟨_, rfl⟩
        have hjl : j < l0 := by omega
        have hil : i < l0 := by omega
        have p1 : IntKind.i64.wrap ((l0 : Int) - 1) = (l0 : Int) - 1 := by rw [IntKind.wrap_i64]; omega
        have p2 : IntKind.i64.wrap ((l0 : Int) - 1 - (i : Int)) = (j : Int) := by rw [IntKind.wrap_i64]; omega
        have p3 : (j : Int) < (l0 : Int) := by omega
        have p4 : (0 : Int) ≤ (j : Int) := by omega
        have hij : i ≠ j := by omega
        obtain ⟨y, hy⟩ : ∃ y, M[j]? = some y := ⟨_, List.getElem?_eq_getElem (by omega)⟩
        have m1 := own_at HOM.out hx
        have m2 := own_at HOM.out hy
        have hsp := swap_perm hx hy
        have Hsp := Lib.hid (hsp.trans HMp.out)
        obtain ⟨M1, hM1⟩ : ∃ l, M.set i y = l := ⟨_, rfl⟩
        obtain ⟨M2, hM2⟩ : ∃ l, M1.set j x = l := ⟨_, rfl⟩
        have HM1 := Lib.hid hM1
        have HM2 := Lib.hid hM2
        have HOd := Lib.hid (HOM.out.keep ((Keep.refl NoB wr).drew) (fun _ _ h => h))
        have Hkd := Lib.hid (Hkr.out.trans ((Keep.refl NoB wr).drew))
        have m3 : wr.drew.cell? ⟨gb, i, none⟩ = some (.string x) := m1.1
        have m4 : wr.drew.cell? ⟨gb, j, none⟩ = some (.string y) := m2.1
        have m5 : wr.drew.frozen? ⟨gb, i, none⟩ = false := m1.2
        have m6 : wr.drew.frozen? ⟨gb, j, none⟩ = false := m2.2
        have HMl1 := Lib.hid (show j < M1.length by rw [← hM1, List.length_set]; omega)
        clear hx hy hj hsp hM1 hM2 hMl m1 m2
        go_wp2_with fail
        refine wp_region_pl (fun _ => True) [] (.rd 0 (.rd 1 (.rd 2 (.rd 3 (.rd 4 (.rd 5 (.rd 6 (.rd 7 (.rd 8 (.rd 9 (.rd 10 (.rd 11 (.rd 12 (.rd 13 (.rd 14 (.rd 16 (.rd 17 (.rd 18 (.fork 15 (.one 19 (.rd 20 (.one 21 (.rd 22 (.one 23 .done))))) 19 (.one 15 (.rd 20 (.one 21 (.rd 22 (.one 23 .done)))))))))))))))))))))))) (by kernel_rfl) (by kernel_rfl) (by kernel_rfl) (by kernel_rfl) (by intro c b d v u h; cases d <;> exact h) ?_
        generalize wr.drew = wd at HOd Hkd m3 m4 m5 m6 ⊢
        first
          | refine pl_get (i := 0) rfl rfl trivial rfl (fun u hu => by (try dsimp only at hu); go_simp; rfl) (by simp only [List.setIfInBounds_toArray, List.set_cons_succ, List.set_cons_zero]; rfl) ?_
          | refine pl_skip (i := 0) rfl rfl trivial rfl (by simp only [List.setIfInBounds_toArray, List.set_cons_succ, List.set_cons_zero]; rfl) ?_
        first
          | refine pl_get (i := 1) rfl rfl trivial rfl (fun u hu => by (try dsimp only at hu); go_simp; rfl) (by simp only [List.setIfInBounds_toArray, List.set_cons_succ, List.set_cons_zero]; rfl) ?_
          | refine pl_skip (i := 1) rfl rfl trivial rfl (by simp only [List.setIfInBounds_toArray, List.set_cons_succ, List.set_cons_zero]; rfl) ?_
        first
          | refine pl_get (i := 2) rfl rfl trivial rfl (fun u hu => by (try dsimp only at hu); go_simp; rfl) (by simp only [List.setIfInBounds_toArray, List.set_cons_succ, List.set_cons_zero]; rfl) ?_
          | refine pl_skip (i := 2) rfl rfl trivial rfl (by simp only [List.setIfInBounds_toArray, List.set_cons_succ, List.set_cons_zero]; rfl) ?_
        first
          | refine pl_get (i := 3) rfl rfl trivial rfl (fun u hu => by (try dsimp only at hu); go_simp; rfl) (by simp only [List.setIfInBounds_toArray, List.set_cons_succ, List.set_cons_zero]; rfl) ?_
          | refine pl_skip (i := 3) rfl rfl trivial rfl (by simp only [List.setIfInBounds_toArray, List.set_cons_succ, List.set_cons_zero]; rfl) ?_
        first
          | refine pl_get (i := 4) rfl rfl trivial rfl (fun u hu => by (try dsimp only at hu); go_simp; rfl) (by simp only [List.setIfInBounds_toArray, List.set_cons_succ, List.set_cons_zero]; rfl) ?_
          | refine pl_skip (i := 4) rfl rfl trivial rfl (by simp only [List.setIfInBounds_toArray, List.set_cons_succ, List.set_cons_zero]; rfl) ?_
        first
          | refine pl_get (i := 5) rfl rfl trivial rfl (fun u hu => by (try dsimp only at hu); go_simp; rfl) (by simp only [List.setIfInBounds_toArray, List.set_cons_succ, List.set_cons_zero]; rfl) ?_
          | refine pl_skip (i := 5) rfl rfl trivial rfl (by simp only [List.setIfInBounds_toArray, List.set_cons_succ, List.set_cons_zero]; rfl) ?_
        first
          | refine pl_get (i := 6) rfl rfl trivial rfl (fun u hu => by (try dsimp only at hu); go_simp; rfl) (by simp only [List.setIfInBounds_toArray, List.set_cons_succ, List.set_cons_zero]; rfl) ?_
          | refine pl_skip (i := 6) rfl rfl trivial rfl (by simp only [List.setIfInBounds_toArray, List.set_cons_succ, List.set_cons_zero]; rfl) ?_
        first
          | refine pl_get (i := 7) rfl rfl trivial rfl (fun u hu => by (try dsimp only at hu); go_simp; rfl) (by simp only [List.setIfInBounds_toArray, List.set_cons_succ, List.set_cons_zero]; rfl) ?_
          | refine pl_skip (i := 7) rfl rfl trivial rfl (by simp only [List.setIfInBounds_toArray, List.set_cons_succ, List.set_cons_zero]; rfl) ?_
        first
          | refine pl_get (i := 8) rfl rfl trivial rfl (fun u hu => by (try dsimp only at hu); go_simp; rfl) (by simp only [List.setIfInBounds_toArray, List.set_cons_succ, List.set_cons_zero]; rfl) ?_
          | refine pl_skip (i := 8) rfl rfl trivial rfl (by simp only [List.setIfInBounds_toArray, List.set_cons_succ, List.set_cons_zero]; rfl) ?_
        first
          | refine pl_get (i := 9) rfl rfl trivial rfl (fun u hu => by (try dsimp only at hu); go_simp; rfl) (by simp only [List.setIfInBounds_toArray, List.set_cons_succ, List.set_cons_zero]; rfl) ?_
          | refine pl_skip (i := 9) rfl rfl trivial rfl (by simp only [List.setIfInBounds_toArray, List.set_cons_succ, List.set_cons_zero]; rfl) ?_
        first
          | refine pl_get (i := 10) rfl rfl trivial rfl (fun u hu => by (try dsimp only at hu); go_simp; rfl) (by simp only [List.setIfInBounds_toArray, List.set_cons_succ, List.set_cons_zero]; rfl) ?_
          | refine pl_skip (i := 10) rfl rfl trivial rfl (by simp only [List.setIfInBounds_toArray, List.set_cons_succ, List.set_cons_zero]; rfl) ?_
        first
          | refine pl_get (i := 11) rfl rfl trivial rfl (fun u hu => by (try dsimp only at hu); go_simp; rfl) (by simp only [List.setIfInBounds_toArray, List.set_cons_succ, List.set_cons_zero]; rfl) ?_
          | refine pl_skip (i := 11) rfl rfl trivial rfl (by simp only [List.setIfInBounds_toArray, List.set_cons_succ, List.set_cons_zero]; rfl) ?_
        first
          | refine pl_get (i := 12) rfl rfl trivial rfl (fun u hu => by (try dsimp only at hu); go_simp; rfl) (by simp only [List.setIfInBounds_toArray, List.set_cons_succ, List.set_cons_zero]; rfl) ?_
          | refine pl_skip (i := 12) rfl rfl trivial rfl (by simp only [List.setIfInBounds_toArray, List.set_cons_succ, List.set_cons_zero]; rfl) ?_
        first
          | refine pl_get (i := 13) rfl rfl trivial rfl (fun u hu => by (try dsimp only at hu); go_simp; rfl) (by simp only [List.setIfInBounds_toArray, List.set_cons_succ, List.set_cons_zero]; rfl) ?_
          | refine pl_skip (i := 13) rfl rfl trivial rfl (by simp only [List.setIfInBounds_toArray, List.set_cons_succ, List.set_cons_zero]; rfl) ?_
        first
          | refine pl_get (i := 14) rfl rfl trivial rfl (fun u hu => by (try dsimp only at hu); go_simp; rfl) (by simp only [List.setIfInBounds_toArray, List.set_cons_succ, List.set_cons_zero]; rfl) ?_
          | refine pl_skip (i := 14) rfl rfl trivial rfl (by simp only [List.setIfInBounds_toArray, List.set_cons_succ, List.set_cons_zero]; rfl) ?_
        first
          | refine pl_get (i := 16) rfl rfl trivial rfl (fun u hu => by (try dsimp only at hu); go_simp; rfl) (by simp only [List.setIfInBounds_toArray, List.set_cons_succ, List.set_cons_zero]; rfl) ?_
          | refine pl_skip (i := 16) rfl rfl trivial rfl (by simp only [List.setIfInBounds_toArray, List.set_cons_succ, List.set_cons_zero]; rfl) ?_
        first
          | refine pl_get (i := 17) rfl rfl trivial rfl (fun u hu => by (try dsimp only at hu); go_simp; rfl) (by simp only [List.setIfInBounds_toArray, List.set_cons_succ, List.set_cons_zero]; rfl) ?_
          | refine pl_skip (i := 17) rfl rfl trivial rfl (by simp only [List.setIfInBounds_toArray, List.set_cons_succ, List.set_cons_zero]; rfl) ?_
        first
          | refine pl_get (i := 18) rfl rfl trivial rfl (fun u hu => by (try dsimp only at hu); go_simp; rfl) (by simp only [List.setIfInBounds_toArray, List.set_cons_succ, List.set_cons_zero]; rfl) ?_
          | refine pl_skip (i := 18) rfl rfl trivial rfl (by simp only [List.setIfInBounds_toArray, List.set_cons_succ, List.set_cons_zero]; rfl) ?_
        refine pl_fork (i := 15) (j := 19) rfl rfl ?_ ?_
        · go_wp2_with (fail)
          refine pl_next (fun _ => trivial) ?_
          refine pl_one (i := 19) rfl ?_
          go_wp2_with (fail)
          refine pl_next (fun _ => trivial) ?_
          first
            | refine pl_get (i := 20) rfl rfl trivial rfl (fun u hu => by (try dsimp only at hu); go_simp; rfl) (by simp only [List.setIfInBounds_toArray, List.set_cons_succ, List.set_cons_zero]; rfl) ?_
            | refine pl_skip (i := 20) rfl rfl trivial rfl (by simp only [List.setIfInBounds_toArray, List.set_cons_succ, List.set_cons_zero]; rfl) ?_
          refine pl_one (i := 21) rfl ?_
          go_wp2_with (fail)
          refine pl_next (fun _ => trivial) ?_
          first
            | refine pl_get (i := 22) rfl rfl trivial rfl (fun u hu => by (try dsimp only at hu); go_simp; rfl) (by simp only [List.setIfInBounds_toArray, List.set_cons_succ, List.set_cons_zero]; rfl) ?_
            | refine pl_skip (i := 22) rfl rfl trivial rfl (by simp only [List.setIfInBounds_toArray, List.set_cons_succ, List.set_cons_zero]; rfl) ?_
          refine pl_one (i := 23) rfl ?_
          go_wp2_with (fail)
          refine pl_next (fun _ => trivial) ?_
          refine pl_done ?_
          go_wp2_with fail
          go_roundw
          case rel =>
            have O1 := own_set HOd.out (i := i) (by rw [HMl.out]; exact hil) y
            rw [HM1.out] at O1
            have O2 := own_set O1 (i := j) HMl1.out x
            rw [HM2.out] at O2
            have hp := Hsp.out
            rw [HM1.out, HM2.out] at hp
            exact ⟨i + 1, M2, hgo, by go_num, hp, O2, (Hkd.out.setCell (Or.inl Hgb.out) _).setCell (Or.inl Hgb.out) _⟩
          case measure => simp [intOf]; omega
        · go_wp2_with (fail)
          refine pl_next (fun _ => trivial) ?_
          refine pl_one (i := 15) rfl ?_
          go_wp2_with (fail)
          refine pl_next (fun _ => trivial) ?_
          first
            | refine pl_get (i := 20) rfl rfl trivial rfl (fun u hu => by (try dsimp only at hu); go_simp; rfl) (by simp only [List.setIfInBounds_toArray, List.set_cons_succ, List.set_cons_zero]; rfl) ?_
            | refine pl_skip (i := 20) rfl rfl trivial rfl (by simp only [List.setIfInBounds_toArray, List.set_cons_succ, List.set_cons_zero]; rfl) ?_
          refine pl_one (i := 21) rfl ?_
          go_wp2_with (fail)
          refine pl_next (fun _ => trivial) ?_
          first
            | refine pl_get (i := 22) rfl rfl trivial rfl (fun u hu => by (try dsimp only at hu); go_simp; rfl) (by simp only [List.setIfInBounds_toArray, List.set_cons_succ, List.set_cons_zero]; rfl) ?_
            | refine pl_skip (i := 22) rfl rfl trivial rfl (by simp only [List.setIfInBounds_toArray, List.set_cons_succ, List.set_cons_zero]; rfl) ?_
          refine pl_one (i := 23) rfl ?_
          go_wp2_with (fail)
          refine pl_next (fun _ => trivial) ?_
          refine pl_done ?_
          go_wp2_with fail
          go_roundw
          case rel =>
            have O1 := own_set HOd.out (i := i) (by rw [HMl.out]; exact hil) y
            rw [HM1.out] at O1
            have O2 := own_set O1 (i := j) HMl1.out x
            rw [HM2.out] at O2
            have hp := Hsp.out
            rw [HM1.out, HM2.out] at hp
            exact ⟨i + 1, M2, hgo, by go_num, hp, O2, (Hkd.out.setCell (Or.inl Hgb.out) _).setCell (Or.inl Hgb.out) _⟩
          case measure => simp [intOf]; omega
    · have d3 : decide ((i : Int) < (hf : Int)) = false := decide_eq_false (by omega)
      have h100 : N.length ≤ 1000000 := by rw [HNl.out]; omega
      have HR := Lib.hid (rds_own' HOM.out)
      have Hkw := Lib.hid (Hk1.out.trans Hkr.out)
      have HNc := Lib.hid (show ∀ V, RdS V a0 N → Calls Tryd.prog 10 #[.slice a0 l0 c0] V fun e w' => ∃ (rb : Nat) (L : List BA), e = .returned (.pointer (some ⟨rb, 0, none⟩)) ∧ Nds N L ∧ Rg w' V.heap.size rb L ∧ Keep NoB V w' by
        intro V hV
        have := new_any V a0 c0 N hV h100
        rw [HNl.out] at this
        exact this)
      have HMc := Lib.hid (show ∀ V, RdS V (some ⟨gb, 0, none⟩) M → Calls Tryd.prog 10 #[.slice (some ⟨gb, 0, none⟩) l0 c3] V fun e w' => ∃ (rb : Nat) (L : List BA), e = .returned (.pointer (some ⟨rb, 0, none⟩)) ∧ Nds M L ∧ Rg w' V.heap.size rb L ∧ Keep NoB V w' by
        intro V hV
        have := new_any V (some ⟨gb, 0, none⟩) c3 M hV (by rw [HMl.out]; omega)
        rw [HMl.out] at this
        exact this)
      have HN8 := Lib.hid (show N.length ≤ 8 by rw [HNl.out]; omega)
      clear HOM Hkr hMl h100
      go_wp2_with fail
      refine (HNc.out wr (HN.out.keep0 Hkw.out)).mono ?_
      rintro _ w5 ⟨r1, L, rfl, hNd, hR1, k5⟩
      have HNd := Lib.hid hNd
      have HR1 := Lib.hid hR1
      have H5 := Lib.hid (HR.out.keep0 k5)
      have Hk5 := Lib.hid (Hkw.out.trans k5)
      have Hs5 := Lib.hid k5.size
      clear hNd hR1 k5 HR
      go_wp2_with fail
      refine (HMc.out w5 H5.out).mono ?_
      rintro _ w6 ⟨r2, L2, rfl, hNd2, hR2, k6⟩
      have eL : L2 = L := hNd2.same HNd.out (fe_perm (by rw [HMl.out]; omega) HMp.out)
      subst eL
      have hR16 := HR1.out.keep0 k6
      have hn12 : r1 ≠ r2 := fun e => by have := HR1.out.lt; have := hR2.1; omega
      have HR6 := Lib.hid (show Rg w6 wr.heap.size r1 L2 ∧ Rg w6 wr.heap.size r2 L2 ∧ r1 ≠ r2 from ⟨hR16, hR2.mono Hs5.out, hn12⟩)
      have Hk6 := Lib.hid (Hk5.out.trans k6)
      have Hs6 := Lib.hid (Nat.le_trans Hs5.out k6.size)
      have HsL := Lib.hid (show ∀ x ∈ L2, x.size ≤ 140737488355328 from fun x hx => HNs.out x (nds_mem HNd.out hx))
      have Hw := Lib.hid Hkw.out.size
      clear hNd2 hR2 k6 hR16 hn12 HR1 H5 Hk5 HNc HMc
      go_wp2_with fail
      refine (owners_any w6 wr.heap.size r1 L2 Hs6.out HR6.out.1 HNd.out.len HNd.out.2 HsL.out key hks 8).mono ?_
      rintro _ w7 ⟨oa, oc, O, O', hO, hO', rfl, OwA, R7, k7⟩
      have eO : O' = O := by rw [← hO', List.take_of_length_le]; rw [hO.len]; have := HNd.out.len; simp; omega
      subst eO
      have HO := Lib.hid hO
      have HR7 := Lib.hid (show Rg w7 wr.heap.size r1 L2 ∧ Rg w7 wr.heap.size r2 L2 from ⟨R7, HR6.out.2.1.keepR HR6.out.1 HR6.out.2.2 k7⟩)
      have HOA := Lib.hid OwA
      have Hk7 := Lib.hid (Hk6.out.trans' k7 (fun i hi e => by have e' : i = r1 := e; have := HR6.out.1.1; have := Hw.out; omega) : Keep NoB w w7)
      have Hs7 := Lib.hid (Nat.le_trans Hs6.out k7.size)
      have Hr26 := Lib.hid HR6.out.2.1.lt
      clear hO hO' OwA R7 k7
      go_wp2_with fail
      refine (owners_any w7 wr.heap.size r2 L2 Hs7.out HR7.out.2 HNd.out.len HNd.out.2 HsL.out key hks 8).mono ?_
      rintro _ w8 ⟨pa, pc, P, P', hP, hP', rfl, OwB, R8, k8⟩
      have eP : P' = P := by rw [← hP', List.take_of_length_le]; rw [hP.len]; have := HNd.out.len; simp; omega
      subst eP
      have eO : P' = O' := hP.uniq HO.out (List.Perm.refl _)
      subst eO
      have HRA := Lib.hid (rds_own (HOA.out.keep k8 (fun g hg e => by have e' : g = r2 := e; have := HOA.out.fresh g hg; have := Hr26.out; omega)))
      have HRB := Lib.hid (rds_own OwB)
      have HR8 := Lib.hid (show Rg w8 wr.heap.size r1 L2 ∧ Rg w8 wr.heap.size r2 L2 from ⟨HR7.out.1.keepR HR7.out.2 (Ne.symm HR6.out.2.2) k8, R8⟩)
      have Hk8 := Lib.hid (Hk7.out.trans' k8 (fun i hi e => by have e' : i = r2 := e; have := HR7.out.2.1; have := Hw.out; omega) : Keep NoB w w8)
      have HPl := Lib.hid (show P'.length ≤ 8 by rw [HO.out.len]; exact HNd.out.len)
      clear hP hP' OwB R8 k8 HOA
      go_wp2_with fail
      refine (same_yes w8 oa pa P'.length oc pc P' HRA.out HRB.out rfl (by have := HPl.out; omega)).mono ?_
      rintro _ w9 ⟨rfl, k9⟩
      have HR9 := Lib.hid (show Rg w9 wr.heap.size r1 L2 ∧ Rg w9 wr.heap.size r2 L2 from ⟨HR8.out.1.keep0 k9, HR8.out.2.keep0 k9⟩)
      have Hk9 := Lib.hid (Hk8.out.trans k9)
      clear k9 HRA HRB
      go_wp2_with fail
      refine (nodes_any w9 wr.heap.size r1 L2 HR9.out.1 HNd.out.len).mono ?_
      rintro _ w10 ⟨na, nc, rfl, ON, k10⟩
      have HR10 := Lib.hid (HR9.out.2.keep0 k10)
      have HON := Lib.hid (rds_own ON)
      have Hk10 := Lib.hid (Hk9.out.trans k10)
      clear ON k10
      go_wp2_with fail
      refine (nodes_any w10 wr.heap.size r2 L2 HR10.out HNd.out.len).mono ?_
      rintro _ w11 ⟨ma, mc, rfl, OM, k11⟩
      have HOM := Lib.hid (rds_own OM)
      have HON1 := Lib.hid (HON.out.keep0 k11)
      have Hk11 := Lib.hid (Hk10.out.trans k11)
      clear OM k11
      go_wp2_with fail
      refine (same_yes w11 na ma L2.length nc mc L2 HON1.out HOM.out rfl (by have := HNd.out.len; omega)).mono ?_
      rintro _ w12 ⟨rfl, k12⟩
      have Hk12 := Lib.hid (Hk11.out.trans k12)
      clear k12
      go_wp2_with fail
      go_ret
      exact ⟨rfl, Hk12.out.below (fun _ _ h => h)⟩
end Go.Proofs.YtopgepifakdpfaaDoor
