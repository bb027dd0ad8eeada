/- The walk of RingMoves. -/
import Derived.Test.YtopgepifakdpfaaDoorRingMovesQ
namespace Go.Proofs.YtopgepifakdpfaaDoor
open Go Go.RowKit Go.Maps Go.Sort
set_option maxRecDepth 100000



set_option maxHeartbeats 16000000 in
theorem moves_walk (a0 : Option Addr) (l0 c0 : Nat) (z0 : Nat → BA) (node : BA) (a2 : Option Addr) (l2 c2 : Nat) (z2 : Nat → BA) (w : World) (hN : RdS w a0 ((List.range l0).map z0)) (hz : l0 ≤ 9223372036854775807) (hsz : ∀ i, i < l0 → (z0 i).size ≤ 140737488355328) (hnode : node.size ≤ 140737488355328) (hM : RdS w a2 ((List.range l2).map z2)) (hz2 : l2 ≤ 9223372036854775807) (hsz2 : ∀ i, i < l2 → (z2 i).size ≤ 140737488355328) :
    Calls Tryd.prog 6 #[.slice a0 l0 c0, .string node, .slice a2 l2 c2] w fun e w' => e = .returned (.bool true) ∧ Below w.heap.size w w' := by
  obtain ⟨N, hNe⟩ : ∃ N, (List.range l0).map z0 = N := ⟨_, rfl⟩
  have hNl : N.length = l0 := by rw [← hNe]; simp
  have hNs : ∀ x ∈ N, x.size ≤ 140737488355328 := by
    intro x hx
    rw [← hNe] at hx
    obtain ⟨i, hi, rfl⟩ := List.mem_map.1 hx
    exact hsz i (List.mem_range.1 hi)
  rw [hNe] at hN
  obtain ⟨M, hMe⟩ : ∃ N, (List.range l2).map z2 = N := ⟨_, rfl⟩
  have hMl : M.length = l2 := by rw [← hMe]; simp
  have hMs : ∀ x ∈ M, x.size ≤ 140737488355328 := by
    intro x hx
    rw [← hMe] at hx
    obtain ⟨i, hi, rfl⟩ := List.mem_map.1 hx
    exact hsz2 i (List.mem_range.1 hi)
  rw [hMe] at hM
  have HN := Lib.hid hN
  have HNs := Lib.hid hNs
  have HM := Lib.hid hM
  have HMs := Lib.hid hMs
  clear hN hNs hsz hNe z0 hM hMs hsz2 hMe z2
  subst hNl hMl
  go_enter Tryd.func6, Tryd.ntmps6
  go_wp2_with fail
  refine (awake_any _).mono ?_
  rintro _ w0 ⟨rfl, k0⟩
  have Hk0 := Lib.hid k0
  clear k0
  go_wp2_with fail
  refine (short_any w0 a0 c0 N node (HN.out.keep0 Hk0.out) hz).mono ?_
  rintro _ w1 ⟨v1, rfl, hv1, k1⟩
  have Hk1 := Lib.hid (Hk0.out.trans k1)
  have Hv1 := Lib.hid hv1
  clear hv1 k1
  cases v1
  · go_wp2_with fail
    go_ret
    exact ⟨rfl, Hk1.out.below (fun _ _ h => h)⟩
  go_wp2_with fail
  refine (short_any w1 a2 c2 M ⟨#[]⟩ (HM.out.keep0 Hk1.out) hz2).mono ?_
  rintro _ w2 ⟨v2, rfl, hv2, k2⟩
  have Hk2 := Lib.hid (Hk1.out.trans k2)
  have Hv2 := Lib.hid hv2
  clear hv2 k2
  cases v2
  · go_wp2_with fail
    go_ret
    exact ⟨rfl, Hk2.out.below (fun _ _ h => h)⟩
  have hl0 : N.length ≤ 100 := Hv1.out trivial
  have hl2 : M.length ≤ 100 := Hv2.out rfl
  go_wp2_with fail
  refine (new_any w2 a0 c0 N (HN.out.keep0 Hk2.out) (by omega)).mono ?_
  rintro _ w3 ⟨r1, L, rfl, hNd, hR1, k3⟩
  obtain ⟨B, hB⟩ : ∃ B, w2.heap.size = B := ⟨_, rfl⟩
  rw [hB] at hR1
  have hs3 := k3.size
  rw [hB] at hs3
  have hBw := Hk2.out.size
  rw [hB] at hBw
  have HBw := Lib.hid hBw
  have hsL : ∀ x ∈ L, x.size ≤ 140737488355328 := fun x hx => HNs.out x (nds_mem hNd hx)
  have HsL := Lib.hid hsL
  have HNd := Lib.hid hNd
  have HR1 := Lib.hid hR1
  have Hk3 := Lib.hid (Hk2.out.trans k3)
  have h8 := hNd.len
  clear hsL hNd hR1 k3 hB hBw
  go_wp2_with fail
  refine (nodes_any w3 B r1 L HR1.out h8).mono ?_
  rintro _ w4 ⟨na, nc, rfl, _, k4⟩
  have HR4 := Lib.hid (HR1.out.keep0 k4)
  have Hk4 := Lib.hid (Hk3.out.trans k4)
  have hs4 := Nat.le_trans hs3 k4.size
  clear k4
  go_wp2_with fail
  refine (with_any w4 B r1 L HR4.out h8 node).mono ?_
  rintro _ w5 ⟨r2, L2, rfl, hNd2, hR5, k5⟩
  have HR5 := Lib.hid (HR4.out.keep0 k5)
  have hn12 : r1 ≠ r2 := fun e => by have := HR4.out.lt; have := hR5.1; omega
  have HR52 := Lib.hid (hR5.mono hs4)
  have HNd2 := Lib.hid hNd2
  have Hk5 := Lib.hid (Hk4.out.trans k5)
  have hs5 := Nat.le_trans hs4 k5.size
  clear k5 hNd2 hR5
  go_wp2_with fail
  refine (without_any w5 B r1 L HR5.out h8 HNd.out.2 node).mono ?_
  rintro _ w6 ⟨r3, rfl, hR6, k6⟩
  have hn13 : r1 ≠ r3 := fun e => by have := HR5.out.lt; have := hR6.1; omega
  have hn23 : r2 ≠ r3 := fun e => by have := HR52.out.lt; have := hR6.1; omega
  have H3 := Lib.hid (⟨HR5.out.keep0 k6, HR52.out.keep0 k6, hR6.mono hs5, hn12, hn13, hn23⟩ : R3 w6 B r1 r2 r3 L L2 (wo node L))
  have Hk6 := Lib.hid (Hk5.out.trans k6)
  have Hs6 := Lib.hid (Nat.le_trans hs5 k6.size)
  clear hR6 k6 hn12 hn13 hn23 HR5 HR52 HR4 HR1 hs3 hs4 hs5 Hk5 Hk4 Hk3
  have hs2 : ∀ y ∈ L2, y.size ≤ 140737488355328 := fun y hy => by
    rcases List.mem_append.1 (nds_mem HNd2.out hy) with h | h
    · exact HsL.out y h
    · rw [List.mem_singleton] at h; subst h; exact hnode
  have hs3 : ∀ y ∈ wo node L, y.size ≤ 140737488355328 := fun y hy => HsL.out y (mem_wo.1 hy).1
  have hl3 : (wo node L).length ≤ 8 := Nat.le_trans (wo_len L node) h8
  have hw3 : RiseB (wo node L) := wo_rise HNd.out.2 node
  have HL2 := Lib.hid (show (∀ y ∈ L2, y.size ≤ 140737488355328) ∧ L2.length ≤ 8 ∧ RiseB L2 ∧ (∀ y ∈ wo node L, y.size ≤ 140737488355328) ∧ (wo node L).length ≤ 8 ∧ RiseB (wo node L) from ⟨hs2, HNd2.out.len, HNd2.out.2, hs3, hl3, hw3⟩)
  clear hs2 hs3 hl3 hw3 hnode
  go_wp2_with fail
  go_loopw [43] (fun iv wr => ∃ k : Nat, k ≤ M.length ∧ iv = .int .i64 (k : Int) ∧ R3 wr B r1 r2 r3 L L2 (wo node L) ∧ B ≤ wr.heap.size ∧ Keep NoB w wr) (fun iv _ => M.length - (intOf iv).toNat)
  case atStart => exact ⟨0, Nat.zero_le _, rfl, H3.out, Hs6.out, Hk6.out⟩
  case round =>
    clear H3 Hk6 Hs6
    obtain ⟨k, hk, rfl, hr3, hsr, hkr⟩ := hrel
    have Hr := Lib.hid hr3
    have Hkr := Lib.hid hkr
    have Hsr := Lib.hid hsr
    clear hr3 hkr hsr
    by_cases hgo : k < M.length
    · obtain ⟨x, hx⟩ : ∃ x, M[k]? = some x := ⟨_, List.getElem?_eq_getElem hgo⟩
      have hxs : x.size ≤ maxLen := Nat.le_trans (HMs.out x (List.mem_of_getElem? hx)) (by decide)
      have Hx := Lib.hid hx
      have d1 : decide ((k : Int) < (M.length : Int)) = true := decide_eq_true (by omega)
      have hw1 : IntKind.i64.wrap ((k : Int) + 1) = (k : Int) + 1 := IntWalk.i64_in _ (by omega)
      clear hx
      obtain ⟨kb, ko, rfl, _, hkc⟩ := (HM.out.keep0 Hkr.out).at Hx.out
      go_wp2_with fail
      refine (owner_any wr B r1 L Hsr.out Hr.out.a h8 HNd.out.2 HsL.out x hxs).mono ?_
      rintro _ w7 ⟨O, hO, rfl, R7, k7⟩
      have HO := Lib.hid hO
      have H7 := Lib.hid (Hr.out.turn1 R7 k7)
      have Hk7 := Lib.hid (Hkr.out.trans' k7 (fun i hi e => by have e' : i = r1 := e; have := Hr.out.a.1; have := HBw.out; omega) : Keep NoB w w7)
      have Hs7 := Lib.hid (Nat.le_trans Hsr.out k7.size)
      obtain ⟨av, hav⟩ : ∃ q, O.head?.getD ⟨#[]⟩ = q := ⟨_, rfl⟩
      obtain ⟨ov, hov⟩ : ∃ q, O.head?.isSome = q := ⟨_, rfl⟩
      rw [hav, hov]
      have Hav := Lib.hid hav
      have Hov := Lib.hid hov
      clear hkc hav hov hO R7 k7 Hr Hkr Hsr
      obtain ⟨kb', ko', hka', _, hkc⟩ := (HM.out.keep0 Hk7.out).at Hx.out
      cases hka'
      go_wp2_with fail
      refine (owner_any w7 B r2 L2 Hs7.out H7.out.b HL2.out.2.1 HL2.out.2.2.1 HL2.out.1 x hxs).mono ?_
      rintro _ w8 ⟨O2, hO2, rfl, R8, k8⟩
      have H8 := Lib.hid (H7.out.turn2 R8 k8)
      have Hk8 := Lib.hid (Hk7.out.trans' k8 (fun i hi e => by have e' : i = r2 := e; have := H7.out.b.1; have := HBw.out; omega) : Keep NoB w w8)
      have Hs8 := Lib.hid (Nat.le_trans Hs7.out k8.size)
      have hKF := kf_of HNd.out.2 h8 HO.out HNd2.out hO2 (ow_wo HO.out node)
      obtain ⟨bv, hbv⟩ : ∃ q, O2.head?.getD ⟨#[]⟩ = q := ⟨_, rfl⟩
      obtain ⟨iv, hiv⟩ : ∃ q, O2.head?.isSome = q := ⟨_, rfl⟩
      rw [hbv, hiv]
      have Hbv := Lib.hid hbv
      have Hiv := Lib.hid hiv
      have hnn : (node.toList == node.toList) = true := by simp
      have haa : (av.toList == av.toList) = true := by simp
      clear hkc hbv hiv hO2 R8 k8
      cases hKF with
      | none h1 h2 h3 h4 =>
        have H1 := Lib.hid (show O = [] ∧ wo node O = [] from ⟨h1, h3⟩)
        obtain rfl : ov = false := by rw [← Hov.out, h1]; rfl
        obtain rfl : node = bv := by rw [← Hbv.out, h2]; rfl
        obtain rfl : iv = true := by rw [← Hiv.out, h2]; rfl
        have q8 : ((L.length : Int) == 8) = false := by simp; omega
        clear h1 h2 h3 h4
        obtain ⟨kb, ko, hka, _, hkc⟩ := (HM.out.keep0 Hk8.out).at Hx.out
        cases hka
        go_wp2_with fail
        refine (owner_any w8 B r3 (wo node L) (by have := Hk8.out.size; have := HBw.out; have := Hs8.out; omega) H8.out.c HL2.out.2.2.2.2.1 HL2.out.2.2.2.2.2 HL2.out.2.2.2.1 x hxs).mono ?_
        rintro _ w9 ⟨D, hD, rfl, R9, k9⟩
        have eD : D = wo node O := ow_less HO.out hD
        subst eD
        have H9 := Lib.hid (H8.out.turn3 R9 k9)
        have Hk9 := Lib.hid (Hk8.out.trans' k9 (fun i hi e => by have e' : i = r3 := e; have := H8.out.c.1; have := HBw.out; omega) : Keep NoB w w9)
        have Hs9 := Lib.hid (Nat.le_trans Hs8.out k9.size)
        obtain ⟨cv, hcv⟩ : ∃ q, (wo node O).head?.getD ⟨#[]⟩ = q := ⟨_, rfl⟩
        obtain ⟨lv, hlv⟩ : ∃ q, (wo node O).head?.isSome = q := ⟨_, rfl⟩
        rw [hcv, hlv]
        have Hcv := Lib.hid hcv
        have Hlv := Lib.hid hlv
        clear hkc hcv hlv hD R9 k9
        obtain ⟨kb, ko, hka, _, hkc⟩ := (HM.out.keep0 Hk9.out).at Hx.out
        cases hka
        go_wp2_with fail
        refine (owners_any w9 B r1 L (by have := Hs9.out; omega) H9.out.a h8 HNd.out.2 HsL.out x hxs 2).mono ?_
        rintro _ w10 ⟨ta, tc, O9, T, hO9, hT, rfl, OwT, R10, k10⟩
        have e9 : O9 = O := hO9.uniq HO.out (List.Perm.refl _)
        subst e9
        have H10 := Lib.hid (H9.out.turn1 R10 k10)
        have HT := Lib.hid hT
        have HrT := Lib.hid (rds_own OwT)
        have Hk10 := Lib.hid (Hk9.out.trans' k10 (fun i hi e => by have e' : i = r1 := e; have := H9.out.a.1; have := HBw.out; omega) : Keep NoB w w10)
        have Hs10 := Lib.hid (Nat.le_trans Hs9.out k10.size)
        clear hO9 hT OwT R10 k10 hkc
        obtain rfl : lv = false := by rw [← Hlv.out, H1.out.2]; rfl
        obtain rfl : av = cv := by rw [← Hav.out, ← Hcv.out, H1.out.2, H1.out.1]
        obtain ⟨t0, ht0⟩ : ∃ t, (av.toList == node.toList) = t := ⟨_, rfl⟩
        cases t0
        all_goals
          go_wp2_with fail
          go_roundw
          case rel => exact ⟨k + 1, hgo, by go_num, H10.out, Hs10.out, Hk10.out⟩
          case measure => simp [intOf]; omega
      | one h1 h2 h3 =>
        have H1 := Lib.hid (show O = [node] ∧ wo node O = [] from ⟨h1, h3⟩)
        obtain rfl : ov = true := by rw [← Hov.out, h1]; rfl
        obtain rfl : node = av := by rw [← Hav.out, h1]; rfl
        obtain rfl : node = bv := by rw [← Hbv.out]; simp [h2]
        obtain rfl : iv = true := by rw [← Hiv.out, h2]; rfl
        obtain ⟨e8, q8⟩ : ∃ e, ((L.length : Int) == 8) = e := ⟨_, rfl⟩
        clear h1 h2 h3
        cases e8
        all_goals
          obtain ⟨kb, ko, hka, _, hkc⟩ := (HM.out.keep0 Hk8.out).at Hx.out
          cases hka
          go_wp2_with fail
          refine (owner_any w8 B r3 (wo node L) (by have := Hk8.out.size; have := HBw.out; have := Hs8.out; omega) H8.out.c HL2.out.2.2.2.2.1 HL2.out.2.2.2.2.2 HL2.out.2.2.2.1 x hxs).mono ?_
          rintro _ w9 ⟨D, hD, rfl, R9, k9⟩
          have eD : D = wo node O := ow_less HO.out hD
          subst eD
          have H9 := Lib.hid (H8.out.turn3 R9 k9)
          have Hk9 := Lib.hid (Hk8.out.trans' k9 (fun i hi e => by have e' : i = r3 := e; have := H8.out.c.1; have := HBw.out; omega) : Keep NoB w w9)
          have Hs9 := Lib.hid (Nat.le_trans Hs8.out k9.size)
          obtain ⟨cv, hcv⟩ : ∃ q, (wo node O).head?.getD ⟨#[]⟩ = q := ⟨_, rfl⟩
          obtain ⟨lv, hlv⟩ : ∃ q, (wo node O).head?.isSome = q := ⟨_, rfl⟩
          rw [hcv, hlv]
          have Hcv := Lib.hid hcv
          have Hlv := Lib.hid hlv
          clear hkc hcv hlv hD R9 k9
          obtain ⟨kb, ko, hka, _, hkc⟩ := (HM.out.keep0 Hk9.out).at Hx.out
          cases hka
          go_wp2_with fail
          refine (owners_any w9 B r1 L (by have := Hs9.out; omega) H9.out.a h8 HNd.out.2 HsL.out x hxs 2).mono ?_
          rintro _ w10 ⟨ta, tc, O9, T, hO9, hT, rfl, OwT, R10, k10⟩
          have e9 : O9 = O := hO9.uniq HO.out (List.Perm.refl _)
          subst e9
          have H10 := Lib.hid (H9.out.turn1 R10 k10)
          have HT := Lib.hid hT
          have HrT := Lib.hid (rds_own OwT)
          have Hk10 := Lib.hid (Hk9.out.trans' k10 (fun i hi e => by have e' : i = r1 := e; have := H9.out.a.1; have := HBw.out; omega) : Keep NoB w w10)
          have Hs10 := Lib.hid (Nat.le_trans Hs9.out k10.size)
          clear hO9 hT OwT R10 k10 hkc
          obtain rfl : lv = false := by rw [← Hlv.out, H1.out.2]; rfl
          have hT2 : ((T.length : Int) == 2) = false := by rw [← HT.out, H1.out.1]; rfl
          go_wp2_with fail
          go_roundw
          case rel => exact ⟨k + 1, hgo, by go_num, H10.out, Hs10.out, Hk10.out⟩
          case measure => simp [intOf]; omega
      | two c r h1 h2 h3 =>
        have H1 := Lib.hid (show O = node :: c :: r ∧ wo node O = c :: r from ⟨h1, h3⟩)
        obtain rfl : ov = true := by rw [← Hov.out, h1]; rfl
        obtain rfl : node = av := by rw [← Hav.out, h1]; rfl
        obtain rfl : node = bv := by rw [← Hbv.out]; simp [h2]
        obtain rfl : iv = true := by rw [← Hiv.out, h2]; rfl
        obtain ⟨e8, q8⟩ : ∃ e, ((L.length : Int) == 8) = e := ⟨_, rfl⟩
        clear h1 h2 h3
        cases e8
        all_goals
          obtain ⟨kb, ko, hka, _, hkc⟩ := (HM.out.keep0 Hk8.out).at Hx.out
          cases hka
          go_wp2_with fail
          refine (owner_any w8 B r3 (wo node L) (by have := Hk8.out.size; have := HBw.out; have := Hs8.out; omega) H8.out.c HL2.out.2.2.2.2.1 HL2.out.2.2.2.2.2 HL2.out.2.2.2.1 x hxs).mono ?_
          rintro _ w9 ⟨D, hD, rfl, R9, k9⟩
          have eD : D = wo node O := ow_less HO.out hD
          subst eD
          have H9 := Lib.hid (H8.out.turn3 R9 k9)
          have Hk9 := Lib.hid (Hk8.out.trans' k9 (fun i hi e => by have e' : i = r3 := e; have := H8.out.c.1; have := HBw.out; omega) : Keep NoB w w9)
          have Hs9 := Lib.hid (Nat.le_trans Hs8.out k9.size)
          obtain ⟨cv, hcv⟩ : ∃ q, (wo node O).head?.getD ⟨#[]⟩ = q := ⟨_, rfl⟩
          obtain ⟨lv, hlv⟩ : ∃ q, (wo node O).head?.isSome = q := ⟨_, rfl⟩
          rw [hcv, hlv]
          have Hcv := Lib.hid hcv
          have Hlv := Lib.hid hlv
          clear hkc hcv hlv hD R9 k9
          obtain ⟨kb, ko, hka, _, hkc⟩ := (HM.out.keep0 Hk9.out).at Hx.out
          cases hka
          go_wp2_with fail
          refine (owners_any w9 B r1 L (by have := Hs9.out; omega) H9.out.a h8 HNd.out.2 HsL.out x hxs 2).mono ?_
          rintro _ w10 ⟨ta, tc, O9, T, hO9, hT, rfl, OwT, R10, k10⟩
          have e9 : O9 = O := hO9.uniq HO.out (List.Perm.refl _)
          subst e9
          have H10 := Lib.hid (H9.out.turn1 R10 k10)
          have HT := Lib.hid hT
          have HrT := Lib.hid (rds_own OwT)
          have Hk10 := Lib.hid (Hk9.out.trans' k10 (fun i hi e => by have e' : i = r1 := e; have := H9.out.a.1; have := HBw.out; omega) : Keep NoB w w10)
          have Hs10 := Lib.hid (Nat.le_trans Hs9.out k10.size)
          clear hO9 hT OwT R10 k10 hkc
          obtain rfl : lv = true := by rw [← Hlv.out, H1.out.2]; rfl
          obtain rfl : c = cv := by rw [← Hcv.out, H1.out.2]; rfl
          have eT : T = [node, c] := by rw [← HT.out, H1.out.1]; rfl
          have hT2 : ((T.length : Int) == 2) = true := by rw [eT]; rfl
          have hT1 : (1 : Int) < (T.length : Int) := by rw [eT]; simp
          have hT0 : 1 < T.length := by rw [eT]; simp
          obtain ⟨tb, to, hta, _, htc⟩ := HrT.out.at (show T[1]? = some c by rw [eT]; rfl)
          cases hta
          have hcc : (c.toList == c.toList) = true := by simp
          clear eT
          go_wp2_with fail
          go_roundw
          case rel => exact ⟨k + 1, hgo, by go_num, H10.out, Hs10.out, Hk10.out⟩
          case measure => simp [intOf]; omega
      | same a r s h0 h1 h2 h3 =>
        have H1 := Lib.hid (show O = a :: r ∧ wo node O = a :: s from ⟨h1, h3⟩)
        obtain rfl : ov = true := by rw [← Hov.out, h1]; rfl
        obtain rfl : a = av := by rw [← Hav.out, h1]; rfl
        obtain rfl : a = bv := by rw [← Hbv.out]; simp [h2]
        obtain rfl : iv = true := by rw [← Hiv.out, h2]; rfl
        have han := tx_ne h0
        obtain ⟨e8, q8⟩ : ∃ e, ((L.length : Int) == 8) = e := ⟨_, rfl⟩
        clear h0 h1 h2 h3
        cases e8
        all_goals
          obtain ⟨kb, ko, hka, _, hkc⟩ := (HM.out.keep0 Hk8.out).at Hx.out
          cases hka
          go_wp2_with fail
          refine (owner_any w8 B r3 (wo node L) (by have := Hk8.out.size; have := HBw.out; have := Hs8.out; omega) H8.out.c HL2.out.2.2.2.2.1 HL2.out.2.2.2.2.2 HL2.out.2.2.2.1 x hxs).mono ?_
          rintro _ w9 ⟨D, hD, rfl, R9, k9⟩
          have eD : D = wo node O := ow_less HO.out hD
          subst eD
          have H9 := Lib.hid (H8.out.turn3 R9 k9)
          have Hk9 := Lib.hid (Hk8.out.trans' k9 (fun i hi e => by have e' : i = r3 := e; have := H8.out.c.1; have := HBw.out; omega) : Keep NoB w w9)
          have Hs9 := Lib.hid (Nat.le_trans Hs8.out k9.size)
          obtain ⟨cv, hcv⟩ : ∃ q, (wo node O).head?.getD ⟨#[]⟩ = q := ⟨_, rfl⟩
          obtain ⟨lv, hlv⟩ : ∃ q, (wo node O).head?.isSome = q := ⟨_, rfl⟩
          rw [hcv, hlv]
          have Hcv := Lib.hid hcv
          have Hlv := Lib.hid hlv
          clear hkc hcv hlv hD R9 k9
          obtain ⟨kb, ko, hka, _, hkc⟩ := (HM.out.keep0 Hk9.out).at Hx.out
          cases hka
          go_wp2_with fail
          refine (owners_any w9 B r1 L (by have := Hs9.out; omega) H9.out.a h8 HNd.out.2 HsL.out x hxs 2).mono ?_
          rintro _ w10 ⟨ta, tc, O9, T, hO9, hT, rfl, OwT, R10, k10⟩
          have e9 : O9 = O := hO9.uniq HO.out (List.Perm.refl _)
          subst e9
          have H10 := Lib.hid (H9.out.turn1 R10 k10)
          have HT := Lib.hid hT
          have HrT := Lib.hid (rds_own OwT)
          have Hk10 := Lib.hid (Hk9.out.trans' k10 (fun i hi e => by have e' : i = r1 := e; have := H9.out.a.1; have := HBw.out; omega) : Keep NoB w w10)
          have Hs10 := Lib.hid (Nat.le_trans Hs9.out k10.size)
          clear hO9 hT OwT R10 k10 hkc
          obtain rfl : lv = true := by rw [← Hlv.out, H1.out.2]; rfl
          obtain rfl : a = cv := by rw [← Hcv.out, H1.out.2]; rfl
          go_wp2_with fail
          go_roundw
          case rel => exact ⟨k + 1, hgo, by go_num, H10.out, Hs10.out, Hk10.out⟩
          case measure => simp [intOf]; omega
      | new a r s h0 h1 h2 h3 h4 =>
        have H1 := Lib.hid (show O = a :: r ∧ wo node O = a :: s from ⟨h1, h3⟩)
        obtain rfl : ov = true := by rw [← Hov.out, h1]; rfl
        obtain rfl : a = av := by rw [← Hav.out, h1]; rfl
        obtain rfl : node = bv := by rw [← Hbv.out]; simp [h2]
        obtain rfl : iv = true := by rw [← Hiv.out, h2]; rfl
        have han := tx_ne h0
        have hna := tx_ne (fun e => h0 (Eq.symm e))
        have q8 : ((L.length : Int) == 8) = false := by simp; omega
        clear h0 h1 h2 h3 h4
        obtain ⟨kb, ko, hka, _, hkc⟩ := (HM.out.keep0 Hk8.out).at Hx.out
        cases hka
        go_wp2_with fail
        refine (owner_any w8 B r3 (wo node L) (by have := Hk8.out.size; have := HBw.out; have := Hs8.out; omega) H8.out.c HL2.out.2.2.2.2.1 HL2.out.2.2.2.2.2 HL2.out.2.2.2.1 x hxs).mono ?_
        rintro _ w9 ⟨D, hD, rfl, R9, k9⟩
        have eD : D = wo node O := ow_less HO.out hD
        subst eD
        have H9 := Lib.hid (H8.out.turn3 R9 k9)
        have Hk9 := Lib.hid (Hk8.out.trans' k9 (fun i hi e => by have e' : i = r3 := e; have := H8.out.c.1; have := HBw.out; omega) : Keep NoB w w9)
        have Hs9 := Lib.hid (Nat.le_trans Hs8.out k9.size)
        obtain ⟨cv, hcv⟩ : ∃ q, (wo node O).head?.getD ⟨#[]⟩ = q := ⟨_, rfl⟩
        obtain ⟨lv, hlv⟩ : ∃ q, (wo node O).head?.isSome = q := ⟨_, rfl⟩
        rw [hcv, hlv]
        have Hcv := Lib.hid hcv
        have Hlv := Lib.hid hlv
        clear hkc hcv hlv hD R9 k9
        obtain ⟨kb, ko, hka, _, hkc⟩ := (HM.out.keep0 Hk9.out).at Hx.out
        cases hka
        go_wp2_with fail
        refine (owners_any w9 B r1 L (by have := Hs9.out; omega) H9.out.a h8 HNd.out.2 HsL.out x hxs 2).mono ?_
        rintro _ w10 ⟨ta, tc, O9, T, hO9, hT, rfl, OwT, R10, k10⟩
        have e9 : O9 = O := hO9.uniq HO.out (List.Perm.refl _)
        subst e9
        have H10 := Lib.hid (H9.out.turn1 R10 k10)
        have HT := Lib.hid hT
        have HrT := Lib.hid (rds_own OwT)
        have Hk10 := Lib.hid (Hk9.out.trans' k10 (fun i hi e => by have e' : i = r1 := e; have := H9.out.a.1; have := HBw.out; omega) : Keep NoB w w10)
        have Hs10 := Lib.hid (Nat.le_trans Hs9.out k10.size)
        clear hO9 hT OwT R10 k10 hkc
        obtain rfl : lv = true := by rw [← Hlv.out, H1.out.2]; rfl
        obtain rfl : a = cv := by rw [← Hcv.out, H1.out.2]; rfl
        go_wp2_with fail
        go_roundw
        case rel => exact ⟨k + 1, hgo, by go_num, H10.out, Hs10.out, Hk10.out⟩
        case measure => simp [intOf]; omega
    · have d1 : decide ((k : Int) < (M.length : Int)) = false := decide_eq_false (by omega)
      go_wp2_with fail
      refine (nodes_any wr B r1 L Hr.out.a h8).mono ?_
      rintro _ w7 ⟨na, nc, rfl, O7, k7⟩
      have H7 := Lib.hid (rds_own O7)
      have Hk7 := Lib.hid (Hkr.out.trans k7)
      clear O7 k7 Hr Hkr
      go_wp2_with fail
      refine (new_any w7 a0 c0 N (HN.out.keep0 Hk7.out) (by omega)).mono ?_
      rintro _ w8 ⟨r4, L4, rfl, hNd4, hR8, k8⟩
      have e4 : L4 = L := hNd4.same HNd.out (List.Perm.refl _)
      subst e4
      have HR8 := Lib.hid hR8
      have H8 := Lib.hid (H7.out.keep0 k8)
      have Hk8 := Lib.hid (Hk7.out.trans k8)
      clear hNd4 hR8 k8 H7
      go_wp2_with fail
      refine (nodes_any w8 _ r4 L4 HR8.out h8).mono ?_
      rintro _ w9 ⟨nb, nd, rfl, O9, k9⟩
      have H9 := Lib.hid (rds_own O9)
      have H89 := Lib.hid (H8.out.keep0 k9)
      have Hk9 := Lib.hid (Hk8.out.trans k9)
      clear O9 k9
      go_wp2_with fail
      refine (same_yes w9 na nb L4.length nc nd L4 H89.out H9.out rfl (by omega)).mono ?_
      rintro _ w10 ⟨rfl, k10⟩
      have Hk10 := Lib.hid (Hk9.out.trans k10)
      clear k10
      go_wp2_with fail
      go_ret
      exact ⟨rfl, Hk10.out.below (fun _ _ h => h)⟩
end Go.Proofs.YtopgepifakdpfaaDoor
