/- The walk of RingOwns. -/
import Derived.Test.YtopgepifakdpfaaDoorRingRo
import Derived.Test.YtopgepifakdpfaaDoorRingNil
namespace Go.Proofs.YtopgepifakdpfaaDoor
open Go Go.RowKit Go.Maps Go.Sort
set_option maxRecDepth 100000


set_option maxHeartbeats 16000000 in
theorem owns_walk (a0 : Option Addr) (l0 c0 : Nat) (z0 : Nat → BA) (key : BA) (n : Int) (w : World) (hN : RdS w a0 ((List.range l0).map z0)) (hz : l0 ≤ 9223372036854775807) (hsz : ∀ i, i < l0 → (z0 i).size ≤ 140737488355328) (hks : key.size ≤ maxLen) :
    Calls Tryd.prog 5 #[.slice a0 l0 c0, .string key, .int .i64 n] w fun e w' => e = .returned (.bool true) ∧ Below w.heap.size w w' := by
  obtain ⟨N, hNe⟩ : ∃ N, (List.range l0).map z0 = N := ⟨_, rfl⟩
  have hNl : N.length = l0 := by rw [← hNe]; simp
  have hNs : ∀ x ∈ N, x.size ≤ 140737488355328 := by
    intro x hx
    rw [← hNe] at hx
    obtain ⟨i, hi, rfl⟩ := List.mem_map.1 hx
    exact hsz i (List.mem_range.1 hi)
  rw [hNe] at hN
  have HN := Lib.hid hN
  have HNs := Lib.hid hNs
  have HNl := Lib.hid hNl
  clear hN hNs hsz hNe z0 hNl
  go_enter Tryd.func5, Tryd.ntmps5
  go_wp2_with fail
  refine (awake_any _).mono ?_
  rintro _ w0 ⟨rfl, k0⟩
  have Hk0 := Lib.hid k0
  clear k0
  go_wp2_with fail
  refine (by have := short_any w0 a0 c0 N key (HN.out.keep0 Hk0.out) (by rw [HNl.out]; exact hz); rw [HNl.out] at this; exact this : Calls Tryd.prog 9 #[.slice a0 l0 c0, .string key] w0 fun e w' => ∃ v, e = .returned (.bool v) ∧ (v = true → l0 ≤ 100) ∧ Keep NoB w0 w').mono ?_
  rintro _ w1 ⟨v1, rfl, hv1, k1⟩
  have Hk1 := Lib.hid (Hk0.out.trans k1)
  have Hv1 := Lib.hid hv1
  clear hv1 k1
  cases v1
  · go_wp2_with fail
    go_ret
    exact ⟨rfl, Hk1.out.below (fun _ _ h => h)⟩
  have hl100 : l0 ≤ 100 := Hv1.out rfl
  have HNc := Lib.hid (show ∀ V, RdS V a0 N → Calls Tryd.prog 10 #[.slice a0 l0 c0] V fun e w' => ∃ (rb : Nat) (L : List BA), e = .returned (.pointer (some ⟨rb, 0, none⟩)) ∧ Nds N L ∧ Rg w' V.heap.size rb L ∧ Keep NoB V w' by
    intro V hV
    have := new_any V a0 c0 N hV (by rw [HNl.out]; omega)
    rw [HNl.out] at this
    exact this)
  go_wp2_with fail
  refine (HNc.out w1 (HN.out.keep0 Hk1.out)).mono ?_
  rintro _ w2 ⟨r1, L, rfl, hNd, hR2, k2⟩
  obtain ⟨B, hB⟩ : ∃ B, w1.heap.size = B := ⟨_, rfl⟩
  have hk2 := k2.size
  have hw1 := Hk1.out.size
  rw [hB] at hR2 hk2 hw1
  have HBw := Lib.hid hw1
  have HNd := Lib.hid hNd
  have HR2 := Lib.hid hR2
  have Hs2 := Lib.hid hk2
  have Hk2 := Lib.hid (Hk1.out.trans k2)
  have HsL := Lib.hid (show ∀ x ∈ L, x.size ≤ 140737488355328 from fun x hx => HNs.out x (nds_mem hNd hx))
  clear hNd hR2 k2 hB hk2 hw1 HNc
  go_wp2_with fail
  refine (rowners_any w2 a0 c0 l0 N (HN.out.keep0 Hk2.out) HNl.out (by omega) HNs.out key hks n).mono ?_
  rintro _ w3 ⟨wa, wc, L3, O, T, hN3, hO3, hT, rfl, hRT, k3, hwf⟩
  obtain rfl : L = L3 := (hN3.same HNd.out (List.Perm.refl _)).symm
  have HO := Lib.hid hO3
  have HT := Lib.hid hT
  have HTl := Lib.hid (show T.length ≤ 8 by rw [← hT, List.length_take, hO3.len]; have := HNd.out.len; omega)
  have HW3 := Lib.hid hRT
  have HWf := Lib.hid hwf
  have Hr1 := Lib.hid HR2.out.lt
  have HR3 := Lib.hid (HR2.out.keep0 k3)
  have Hk3 := Lib.hid (Hk2.out.trans k3)
  clear hN3 hO3 hT hRT k3 hwf HR2
  go_wp2_with fail
  refine (rowners_any w3 a0 c0 l0 N (HN.out.keep0 Hk3.out) HNl.out (by omega) HNs.out key hks 1).mono ?_
  rintro _ w4 ⟨ua, uc, L4, O4, T1, hN4, hO4, hT1, rfl, hR1, k4, hwf⟩
  obtain rfl : L = L4 := (hN4.same HNd.out (List.Perm.refl _)).symm
  obtain rfl : O = O4 := (hO4.uniq HO.out (List.Perm.refl _)).symm
  have HT1 := Lib.hid hT1
  have HU4 := Lib.hid hR1
  have HUf := Lib.hid hwf
  have HR4 := Lib.hid (HR3.out.keep0 k4)
  have HW4 := Lib.hid (HW3.out.keep0 k4)
  have Hk4 := Lib.hid (Hk3.out.trans k4)
  have Hr3 := Lib.hid HR3.out.lt
  clear hN4 hO4 hT1 hR1 k4 hwf HR3 HW3
  go_wp2_with fail
  refine (owner_any w4 B r1 L (by have := HR4.out.1; have := HR4.out.lt; omega) HR4.out HNd.out.len HNd.out.2 HsL.out key hks).mono ?_
  rintro _ w6 ⟨O5, hO5, rfl, R6, k6⟩
  obtain rfl : O = O5 := (hO5.uniq HO.out (List.Perm.refl _)).symm
  have HR6 := Lib.hid R6
  have HW6 := Lib.hid (HW4.out.keep k6 (fun b off e h => by have e' : b = r1 := h; have := HWf.out b off e; have := Hr1.out; omega))
  have HU6 := Lib.hid (HU4.out.keep k6 (fun b off e h => by have e' : b = r1 := h; have := HUf.out b off e; have := Hr3.out; omega))
  have Hk6 := Lib.hid (Hk4.out.trans' k6 (fun i hi e => by have e' : i = r1 := e; have := HR4.out.1; have := HBw.out; omega) : Keep NoB w w6)
  have hcase : (O.head?.isSome = false ∧ ((T1.length : Int) == 1) = false ∧ O.head?.getD ⟨#[]⟩ = ⟨#[]⟩) ∨ ∃ x, O.head?.isSome = true ∧ T1 = [x] ∧ O.head?.getD ⟨#[]⟩ = x := by
    have := HT1.out
    cases O with
    | nil => left; rw [← this]; exact ⟨rfl, rfl, rfl⟩
    | cons x r => right; exact ⟨x, rfl, by rw [← this]; rfl, rfl⟩
  obtain ⟨ow, how⟩ : ∃ q, O.head?.getD ⟨#[]⟩ = q := ⟨_, rfl⟩
  obtain ⟨ob, hob⟩ : ∃ q, O.head?.isSome = q := ⟨_, rfl⟩
  rw [how, hob] at hcase ⊢
  clear how hob hO5 R6 k6 HR4 HW4 HU4
  rcases hcase with ⟨rfl, h0, rfl⟩ | ⟨x, rfl, rfl, rfl⟩
  · go_wp2_with fail
    refine (owner_nil w6 key).mono ?_
    rintro _ w7 ⟨rfl, k7⟩
    have Hk7 := Lib.hid (Hk6.out.trans k7)
    have HR7 := Lib.hid (HR6.out.keep0 k7)
    have HW7 := Lib.hid (HW6.out.keep0 k7)
    clear k7
    go_wp2_with fail
    refine (owners_nil w7 key n).mono ?_
    rintro _ w8 ⟨rfl, k8⟩
    have Hk8 := Lib.hid (Hk7.out.trans k8)
    have HR8 := Lib.hid (HR7.out.keep0 k8)
    have HW8 := Lib.hid (HW7.out.keep0 k8)
    clear k8
    go_wp2_with fail
    refine (nodes_nil w8).mono ?_
    rintro _ _ ⟨rfl, rfl⟩
    go_wp2_with fail
    refine (without_nil w8 key).mono ?_
    rintro _ w9 ⟨r9, L9, rfl, hN9, hR9, k9⟩
    have eL9 : L9 = [] := hN9.1.eq_nil
    subst eL9
    have HR99 := Lib.hid hR9
    have Hk9 := Lib.hid (Hk8.out.trans k9)
    have HR9 := Lib.hid (HR8.out.keep0 k9)
    have HW9 := Lib.hid (HW8.out.keep0 k9)
    clear hN9 hR9 k9
    go_wp2_with fail
    refine (nodes_any w9 _ r9 [] HR99.out (by decide)).mono ?_
    rintro _ w10 ⟨xa, xc, rfl, _, k10⟩
    have Hk10 := Lib.hid (Hk9.out.trans k10)
    have HR10 := Lib.hid (HR9.out.keep0 k10)
    have HW10 := Lib.hid (HW9.out.keep0 k10)
    clear k10
    go_wp2_with fail
    refine (with_nil w10 key).mono ?_
    rintro _ w11 ⟨r11, L11, rfl, hN11, hR11, k11⟩
    have eL11 : L11 = [key] := List.perm_singleton.1 (by have := hN11.1; rw [fe_cons, if_pos (by simp), fe_nil] at this; exact this)
    subst eL11
    have HR111 := Lib.hid hR11
    have Hk11 := Lib.hid (Hk10.out.trans k11)
    have HR11 := Lib.hid (HR10.out.keep0 k11)
    have HW11 := Lib.hid (HW10.out.keep0 k11)
    clear hN11 hR11 k11
    go_wp2_with fail
    refine (nodes_any w11 _ r11 [key] HR111.out (by simp)).mono ?_
    rintro _ w12 ⟨ya, yc, rfl, Oy, k12⟩
    have HY12 := Lib.hid (rds_own Oy)
    have Hk12 := Lib.hid (Hk11.out.trans k12)
    have HR12 := Lib.hid (HR11.out.keep0 k12)
    have HW12 := Lib.hid (HW11.out.keep0 k12)
    clear Oy k12
    have k13 := (Keep.refl NoB w12).alloc (.cells #[.string key] 9)
    have b13 := blk_new w12 (.cells #[.string key] 9)
    have HY13 := Lib.hid (HY12.out.keep0 k13)
    have HK13 := Lib.hid (rds_blk (N := [key]) b13 rfl)
    have Hk13 := Lib.hid (Hk12.out.trans k13)
    have HR13 := Lib.hid (HR12.out.keep0 k13)
    have HW13 := Lib.hid (HW12.out.keep0 k13)
    have Hs13 := Lib.hid k13.size
    clear k13 b13
    go_wp2_with fail
    generalize w12.alloc (.cells #[.string key] 9) = w13 at HY13 HK13 Hk13 HR13 HW13 Hs13 ⊢
    refine (same_yes w13 _ _ 1 _ _ [key] HY13.out HK13.out rfl (by decide)).mono ?_
    rintro _ w14 ⟨rfl, k14⟩
    have Hk14 := Lib.hid (Hk13.out.trans k14)
    have HR14 := Lib.hid (HR13.out.keep0 k14)
    have HW14 := Lib.hid (HW13.out.keep0 k14)
    have Hw14 := Lib.hid Hk14.out.size
    clear k14
    go_wp2_with fail
    refine (owners_any w14 B r1 L (by have := HR14.out.1; have := HR14.out.lt; omega) HR14.out HNd.out.len HNd.out.2 HsL.out key hks n).mono ?_
    rintro _ w15 ⟨oa, oc, P, P', hP, hP', rfl, OP, R15, k15⟩
    have eP : P = O := hP.uniq HO.out (List.Perm.refl _)
    subst eP
    have eP' : P' = T := by rw [← hP', HT.out]
    subst eP'
    have HP15 := Lib.hid (rds_own OP)
    have HW15 := Lib.hid (HW14.out.keep k15 (fun b off e h => by have e' : b = r1 := h; have := HWf.out b off e; have := Hr1.out; omega))
    have HR15 := Lib.hid R15
    have Hk15 := Lib.hid (Hk14.out.trans' k15 (fun i hi e => by have e' : i = r1 := e; have := HR14.out.1; have := HBw.out; omega) : Keep NoB w w15)
    clear hP hP' OP R15 k15
    go_wp2_with fail
    refine (same_yes w15 oa wa P'.length oc wc P' HP15.out HW15.out rfl (by have := HTl.out; omega)).mono ?_
    rintro _ w16 ⟨rfl, k16⟩
    have HR16 := Lib.hid (HR15.out.keep0 k16)
    have Hk16 := Lib.hid (Hk15.out.trans k16)
    clear k16
    go_wp2_with fail
    refine (nodes_any w16 B r1 L HR16.out HNd.out.len).mono ?_
    rintro _ w17 ⟨na, nc, rfl, ON, k17⟩
    have HN17 := Lib.hid (rds_own ON)
    have Hk17 := Lib.hid (Hk16.out.trans k17)
    clear ON k17
    go_wp2_with fail
    refine (rnodes_any w17 a0 c0 l0 N (HN.out.keep0 Hk17.out) HNl.out (by omega)).mono ?_
    rintro _ w18 ⟨ma, mc, L18, rfl, hN18, OM, k18⟩
    have eL : L18 = L := hN18.same HNd.out (List.Perm.refl _)
    subst eL
    have HN18 := Lib.hid (HN17.out.keep0 k18)
    have HM18 := Lib.hid (rds_own OM)
    have Hk18 := Lib.hid (Hk17.out.trans k18)
    clear hN18 OM k18
    go_wp2_with fail
    refine (same_yes w18 na ma L18.length nc mc L18 HN18.out HM18.out rfl (by have := HNd.out.len; omega)).mono ?_
    rintro _ w19 ⟨rfl, k19⟩
    have Hk19 := Lib.hid (Hk18.out.trans k19)
    clear k19
    go_wp2_with fail
    go_ret
    exact ⟨rfl, Hk19.out.below (fun _ _ h => h)⟩
  · obtain ⟨ub, uo, rfl, _, huc⟩ := HU6.out.at (i := 0) (x := ow) rfl
    simp only [Nat.add_zero] at huc
    have hxx : (ow.toList == ow.toList) = true := by simp
    go_wp2_with fail
    refine (owner_nil w6 key).mono ?_
    rintro _ w7 ⟨rfl, k7⟩
    have Hk7 := Lib.hid (Hk6.out.trans k7)
    have HR7 := Lib.hid (HR6.out.keep0 k7)
    have HW7 := Lib.hid (HW6.out.keep0 k7)
    clear k7
    go_wp2_with fail
    refine (owners_nil w7 key n).mono ?_
    rintro _ w8 ⟨rfl, k8⟩
    have Hk8 := Lib.hid (Hk7.out.trans k8)
    have HR8 := Lib.hid (HR7.out.keep0 k8)
    have HW8 := Lib.hid (HW7.out.keep0 k8)
    clear k8
    go_wp2_with fail
    refine (nodes_nil w8).mono ?_
    rintro _ _ ⟨rfl, rfl⟩
    go_wp2_with fail
    refine (without_nil w8 key).mono ?_
    rintro _ w9 ⟨r9, L9, rfl, hN9, hR9, k9⟩
    have eL9 : L9 = [] := hN9.1.eq_nil
    subst eL9
    have HR99 := Lib.hid hR9
    have Hk9 := Lib.hid (Hk8.out.trans k9)
    have HR9 := Lib.hid (HR8.out.keep0 k9)
    have HW9 := Lib.hid (HW8.out.keep0 k9)
    clear hN9 hR9 k9
    go_wp2_with fail
    refine (nodes_any w9 _ r9 [] HR99.out (by decide)).mono ?_
    rintro _ w10 ⟨xa, xc, rfl, _, k10⟩
    have Hk10 := Lib.hid (Hk9.out.trans k10)
    have HR10 := Lib.hid (HR9.out.keep0 k10)
    have HW10 := Lib.hid (HW9.out.keep0 k10)
    clear k10
    go_wp2_with fail
    refine (with_nil w10 key).mono ?_
    rintro _ w11 ⟨r11, L11, rfl, hN11, hR11, k11⟩
    have eL11 : L11 = [key] := List.perm_singleton.1 (by have := hN11.1; rw [fe_cons, if_pos (by simp), fe_nil] at this; exact this)
    subst eL11
    have HR111 := Lib.hid hR11
    have Hk11 := Lib.hid (Hk10.out.trans k11)
    have HR11 := Lib.hid (HR10.out.keep0 k11)
    have HW11 := Lib.hid (HW10.out.keep0 k11)
    clear hN11 hR11 k11
    go_wp2_with fail
    refine (nodes_any w11 _ r11 [key] HR111.out (by simp)).mono ?_
    rintro _ w12 ⟨ya, yc, rfl, Oy, k12⟩
    have HY12 := Lib.hid (rds_own Oy)
    have Hk12 := Lib.hid (Hk11.out.trans k12)
    have HR12 := Lib.hid (HR11.out.keep0 k12)
    have HW12 := Lib.hid (HW11.out.keep0 k12)
    clear Oy k12
    have k13 := (Keep.refl NoB w12).alloc (.cells #[.string key] 9)
    have b13 := blk_new w12 (.cells #[.string key] 9)
    have HY13 := Lib.hid (HY12.out.keep0 k13)
    have HK13 := Lib.hid (rds_blk (N := [key]) b13 rfl)
    have Hk13 := Lib.hid (Hk12.out.trans k13)
    have HR13 := Lib.hid (HR12.out.keep0 k13)
    have HW13 := Lib.hid (HW12.out.keep0 k13)
    have Hs13 := Lib.hid k13.size
    clear k13 b13
    go_wp2_with fail
    generalize w12.alloc (.cells #[.string key] 9) = w13 at HY13 HK13 Hk13 HR13 HW13 Hs13 ⊢
    refine (same_yes w13 _ _ 1 _ _ [key] HY13.out HK13.out rfl (by decide)).mono ?_
    rintro _ w14 ⟨rfl, k14⟩
    have Hk14 := Lib.hid (Hk13.out.trans k14)
    have HR14 := Lib.hid (HR13.out.keep0 k14)
    have HW14 := Lib.hid (HW13.out.keep0 k14)
    have Hw14 := Lib.hid Hk14.out.size
    clear k14
    go_wp2_with fail
    refine (owners_any w14 B r1 L (by have := HR14.out.1; have := HR14.out.lt; omega) HR14.out HNd.out.len HNd.out.2 HsL.out key hks n).mono ?_
    rintro _ w15 ⟨oa, oc, P, P', hP, hP', rfl, OP, R15, k15⟩
    have eP : P = O := hP.uniq HO.out (List.Perm.refl _)
    subst eP
    have eP' : P' = T := by rw [← hP', HT.out]
    subst eP'
    have HP15 := Lib.hid (rds_own OP)
    have HW15 := Lib.hid (HW14.out.keep k15 (fun b off e h => by have e' : b = r1 := h; have := HWf.out b off e; have := Hr1.out; omega))
    have HR15 := Lib.hid R15
    have Hk15 := Lib.hid (Hk14.out.trans' k15 (fun i hi e => by have e' : i = r1 := e; have := HR14.out.1; have := HBw.out; omega) : Keep NoB w w15)
    clear hP hP' OP R15 k15
    go_wp2_with fail
    refine (same_yes w15 oa wa P'.length oc wc P' HP15.out HW15.out rfl (by have := HTl.out; omega)).mono ?_
    rintro _ w16 ⟨rfl, k16⟩
    have HR16 := Lib.hid (HR15.out.keep0 k16)
    have Hk16 := Lib.hid (Hk15.out.trans k16)
    clear k16
    go_wp2_with fail
    refine (nodes_any w16 B r1 L HR16.out HNd.out.len).mono ?_
    rintro _ w17 ⟨na, nc, rfl, ON, k17⟩
    have HN17 := Lib.hid (rds_own ON)
    have Hk17 := Lib.hid (Hk16.out.trans k17)
    clear ON k17
    go_wp2_with fail
    refine (rnodes_any w17 a0 c0 l0 N (HN.out.keep0 Hk17.out) HNl.out (by omega)).mono ?_
    rintro _ w18 ⟨ma, mc, L18, rfl, hN18, OM, k18⟩
    have eL : L18 = L := hN18.same HNd.out (List.Perm.refl _)
    subst eL
    have HN18 := Lib.hid (HN17.out.keep0 k18)
    have HM18 := Lib.hid (rds_own OM)
    have Hk18 := Lib.hid (Hk17.out.trans k18)
    clear hN18 OM k18
    go_wp2_with fail
    refine (same_yes w18 na ma L18.length nc mc L18 HN18.out HM18.out rfl (by have := HNd.out.len; omega)).mono ?_
    rintro _ w19 ⟨rfl, k19⟩
    have Hk19 := Lib.hid (Hk18.out.trans k19)
    clear k19
    go_wp2_with fail
    go_ret
    exact ⟨rfl, Hk19.out.below (fun _ _ h => h)⟩
end Go.Proofs.YtopgepifakdpfaaDoor
