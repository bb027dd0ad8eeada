/- The walk of RingAll. -/
import Derived.Test.YtopgepifakdpfaaDoorRingAllQ
import Derived.Test.YtopgepifakdpfaaDoorRingSame
namespace Go.Proofs.YtopgepifakdpfaaDoor
open Go Go.RowKit Go.Maps Go.Sort
set_option maxRecDepth 100000




set_option maxHeartbeats 8000000 in
theorem all_walk (a0 : Option Addr) (l0 c0 : Nat) (z0 : Nat → BA) (key : BA) (n : Int) (w : World) (hN : RdS w a0 ((List.range l0).map z0)) (hz : l0 ≤ 9223372036854775807) (hsz : ∀ i, i < l0 → (z0 i).size ≤ 140737488355328) (hks : key.size ≤ maxLen) :
    Calls Tryd.prog 4 #[.slice a0 l0 c0, .string key, .int .i64 n] w fun e w' => e = .returned (.bool true) ∧ Below w.heap.size w w' := by
  obtain ⟨N, hNe⟩ : ∃ N, (List.range l0).map z0 = N := ⟨_, rfl⟩
  have hNl : N.length = l0 := by rw [← hNe]; simp
  have hNs : ∀ x ∈ N, x.size ≤ 140737488355328 := by
    intro x hx
    rw [← hNe] at hx
    obtain ⟨i, hi, rfl⟩ := List.mem_map.1 hx
    exact hsz i (List.mem_range.1 hi)
  rw [hNe] at hN
  have HN := Lib.hid hN
  have HNs := Lib.hid hNs
  clear hN hNs hsz hNe z0
  subst hNl
  go_enter Tryd.func4, Tryd.ntmps4
  go_wp2_with fail
  refine (awake_any _).mono ?_
  rintro _ w0 ⟨rfl, k0⟩
  have Hk0 := Lib.hid k0
  clear k0
  by_cases hl : N.length ≤ 20
  case neg =>
    have d1 : decide (20 < (N.length : Int)) = true := decide_eq_true (by omega)
    go_wp2_with fail
    go_ret
    exact ⟨rfl, Hk0.out.below (fun _ _ h => h)⟩
  have d1 : decide (20 < (N.length : Int)) = false := decide_eq_false (by omega)
  go_wp2_with fail
  refine (new_any w0 a0 c0 N (HN.out.keep0 Hk0.out) (by omega)).mono ?_
  rintro _ w1 ⟨rb, L, rfl, hNd, hR1, k1⟩
  have hsL : ∀ x ∈ L, x.size ≤ 140737488355328 := fun x hx => HNs.out x (nds_mem hNd hx)
  have HsL := Lib.hid hsL
  have HNd := Lib.hid hNd
  have HR1 := Lib.hid hR1
  have Hk1 := Lib.hid k1
  have h8 := hNd.len
  clear hsL hNd hR1 k1
  go_wp2_with fail
  refine (owners_any w1 w0.heap.size rb L Hk1.out.size HR1.out h8 HNd.out.2 HsL.out key hks 100).mono ?_
  rintro _ w2 ⟨aa, ca, O, O', hO, hO', rfl, OwA, R2, k2⟩
  have hOl := hO.len
  have e2 : O' = O := by rw [← hO', List.take_of_length_le]; rw [hOl]; simp; omega
  subst e2
  obtain ⟨m, hm⟩ : ∃ m, L.length = m := ⟨_, rfl⟩
  rw [hm] at hOl h8
  rw [hOl] at OwA ⊢
  have HO := Lib.hid hO
  have HL := Lib.hid (show O'.length = m ∧ L.length = m ∧ m ≤ 8 from ⟨hOl, hm, h8⟩)
  have HR2 := Lib.hid R2
  have hrb : w0.heap.size ≤ rb := R2.1
  have Hrb := Lib.hid (show rb < w1.heap.size by obtain ⟨_, na, nc, dn, sm, pa, pc, P, h1, _⟩ := HR1.out; exact blk_lt h1)
  have HOA := Lib.hid OwA
  have Hk2 := Lib.hid ((Hk0.out.trans Hk1.out).trans' k2 (fun i hi e => by have e' : i = rb := e; have := Hk0.out.size; omega) : Keep NoB w w2)
  have Hs2 := Lib.hid (Nat.le_trans Hk1.out.size k2.size)
  have Hs12 := Lib.hid k2.size
  clear hO hO' R2 k2 OwA hOl HR1
  go_wp2_with fail
  refine (nodes_any w2 _ rb L HR2.out (by rw [hm]; exact h8)).mono ?_
  rintro _ w3 ⟨la, lc, rfl, OwL, k3⟩
  rw [hm] at OwL ⊢
  clear hm
  have HOL := Lib.hid OwL
  have HR3 := Lib.hid (HR2.out.keep0 k3)
  have HOA3 := Lib.hid (HOA.out.keep k3 (fun _ _ h => h))
  have Hk3 := Lib.hid (Hk2.out.trans k3)
  have Hs3 := Lib.hid (Nat.le_trans Hs2.out k3.size)
  have Hs23 := Lib.hid k3.size
  clear OwL k3 HR2 Hk2 HOA
  go_wp2_with fail
  refine (owner_any w3 w0.heap.size rb L Hs3.out HR3.out (by rw [HL.out.2.1]; exact h8) HNd.out.2 HsL.out key hks).mono ?_
  rintro _ w4 ⟨O2, hO2, rfl, R4, k4⟩
  have e3 : O2 = O' := hO2.uniq HO.out (List.Perm.refl _)
  subst e3
  have HR4 := Lib.hid R4
  have HOo := Lib.hid (HOA3.out.keep k4 (fun g hg e => by have e' : g = rb := e; have := HOA3.out.fresh g hg; have := Hrb.out; omega))
  have HLo := Lib.hid (HOL.out.keep k4 (fun g hg e => by have e' : g = rb := e; have := HOL.out.fresh g hg; have := Hrb.out; have := Hs12.out; omega))
  have HOr := Lib.hid (rds_own' HOo.out)
  have HLr := Lib.hid (rds_own' HLo.out)
  have Hk4 := Lib.hid (Hk3.out.trans' k4 (fun i hi e => by have e' : i = rb := e; have := Hk0.out.size; omega) : Keep NoB w w4)
  have Hs4 := Lib.hid (Nat.le_trans Hs3.out k4.size)
  have h8' : L.length ≤ 8 := by rw [HL.out.2.1]; exact h8
  have hcase : (O2.head?.isSome = false ∧ m = 0 ∧ O2.head?.getD ⟨#[]⟩ = ⟨#[]⟩) ∨ (O2.head?.isSome = true ∧ 0 < m ∧ O2[0]? = some (O2.head?.getD ⟨#[]⟩)) := by
    have := HL.out.1
    cases O2 with
    | nil => left; simp at this; exact ⟨rfl, this.symm, rfl⟩
    | cons x r => right; simp at this; exact ⟨rfl, by omega, rfl⟩
  obtain ⟨ow, how⟩ : ∃ q, O2.head?.getD ⟨#[]⟩ = q := ⟨_, rfl⟩
  obtain ⟨ob, hob⟩ : ∃ q, O2.head?.isSome = q := ⟨_, rfl⟩
  rw [how, hob] at hcase ⊢
  clear how hob hO2 R4 k4 HOA3 HOL HR3 Hk3 h8
  have h8 : L.length ≤ 8 := h8'
  have hm8 : m ≤ 8 := HL.out.2.2
  have d8 : decide ((8 : Int) < (m : Int)) = false := decide_eq_false (by omega)
  clear h8'
  rcases hcase with ⟨rfl, h0, rfl⟩ | ⟨rfl, h0, hx0⟩
  · have d0 : decide ((0 : Int) < (m : Int)) = false := decide_eq_false (by omega)
    go_wp2_with fail
    go_loopw [72] (fun iv wr => ∃ i : Nat, i ≤ m ∧ iv = .int .i64 (i : Int) ∧ Keep NoB w4 wr) (fun iv _ => m - (intOf iv).toNat)
    case atStart => exact ⟨0, Nat.zero_le _, rfl, Keep.refl _ _⟩
    case round =>
      obtain ⟨i, hi, rfl, hkr⟩ := hrel
      have Hkr := Lib.hid hkr
      clear hkr
      by_cases hgo : i < m
      · omega
      · have d1 : decide ((i : Int) < (m : Int)) = false := decide_eq_false (by omega)
        have HOw := Lib.hid (HOo.out.keep Hkr.out (fun _ _ h => h))
        have HRw := Lib.hid (HR4.out.keep0 Hkr.out)
        have Hkw := Lib.hid (Hk4.out.trans Hkr.out)
        have Hsw := Lib.hid Hkr.out.size
        clear Hkr
        go_wp2_with fail
        refine (owners_any wr w0.heap.size rb L (by have := Hsw.out; have := Hs4.out; omega) HRw.out h8 HNd.out.2 HsL.out key hks n).mono ?_
        rintro _ w6 ⟨sa, sc, O6, S, hO6, hS, rfl, OwS, R6, k6⟩
        have e6 : O6 = O2 := hO6.uniq HO.out (List.Perm.refl _)
        subst e6
        have HS := Lib.hid hS
        have HS6 := Lib.hid (rds_own OwS)
        have HO6 := Lib.hid (rds_own' (HOw.out.keep k6 (fun g hg e => by have e' : g = rb := e; have := HOw.out.fresh g hg; have := Hrb.out; omega)))
        have Hk6 := Lib.hid (Hkw.out.trans' k6 (fun q hq e => by have e' : q = rb := e; have := hrb; have := Hk0.out.size; omega) : Keep NoB w w6)
        have hSl : S.length = min n.toNat m := by rw [← hS, List.length_take, HL.out.1]
        have hSm : S.length ≤ m := by omega
        have hfin : (S.length : Int) = max 0 (min n (m : Int)) := by omega
        have Hfin := Lib.hid hfin
        clear hO6 hS OwS R6 k6 hSl HRw HOw Hkw
        obtain ⟨s, hs⟩ : ∃ s, S.length = s := ⟨_, rfl⟩
        have Hs := Lib.hid hs
        rw [hs] at hfin hSm ⊢
        clear hs
        skip
        go_wp2_with fail
        go_loopw [125] (fun iv wz => ∃ i : Nat, i ≤ s ∧ iv = .int .i64 (i : Int) ∧ Keep NoB w6 wz) (fun iv _ => s - (intOf iv).toNat)
        case atStart => exact ⟨0, Nat.zero_le _, rfl, Keep.refl _ _⟩
        case round =>
          obtain ⟨i, hi, rfl, hkz⟩ := hrel
          have Hkz := Lib.hid hkz
          clear hkz
          by_cases hgo : i < s
          · omega
          · have d2 : decide ((i : Int) < (s : Int)) = false := decide_eq_false (by omega)
            go_wp2_with fail
            go_ret
            exact ⟨rfl, (Hk6.out.trans Hkz.out).below (fun _ _ h => h)⟩
  · have d0 : decide ((0 : Int) < (m : Int)) = true := decide_eq_true (by omega)
    obtain ⟨hb0, ho0, rfl, _, hc0⟩ := HOr.out.at hx0
    simp only [Nat.add_zero] at hc0
    have he0 : (ow.toList == ow.toList) = true := by simp
    have hz0 : (0 : Int) < (m : Int) := by omega
    clear hx0
    go_wp2_with fail
    go_loopw [72] (fun iv wr => ∃ i : Nat, i ≤ m ∧ iv = .int .i64 (i : Int) ∧ Keep NoB w4 wr) (fun iv _ => m - (intOf iv).toNat)
    case atStart => exact ⟨0, Nat.zero_le _, rfl, Keep.refl _ _⟩
    case round =>
      obtain ⟨i, hi, rfl, hkr⟩ := hrel
      have Hkr := Lib.hid hkr
      clear hkr
      by_cases hgo : i < m
      · obtain ⟨x, hx⟩ : ∃ x, L[i]? = some x := ⟨_, List.getElem?_eq_getElem (by have := HL.out.2.1; omega)⟩
        have Hx := Lib.hid hx
        have d1 : decide ((i : Int) < (m : Int)) = true := decide_eq_true (by omega)
        have hw1 : IntKind.i64.wrap ((i : Int) + 1) = (i : Int) + 1 := IntWalk.i64_in _ (by omega)
        clear hx
        go_wp2_with fail
        go_loopw [13, 77] (fun qv jv wz => ∃ j : Nat, j ≤ m ∧ jv = .int .i64 (j : Int) ∧ qv = .int .i64 ((tms x (O2.take j) : Nat) : Int) ∧ Keep NoB w4 wz) (fun _ jv _ => m - (intOf jv).toNat)
        case atStart => exact ⟨0, Nat.zero_le _, rfl, rfl, Hkr.out⟩
        case round =>
          obtain ⟨j, hj, rfl, rfl, hkz⟩ := hrel
          have Hkz := Lib.hid hkz
          obtain ⟨lb, lo, rfl, hlb, hlc⟩ := (HLr.out.keep0 hkz).at Hx.out
          obtain ⟨t, ht⟩ : ∃ t, tms x (O2.take j) = t := ⟨_, rfl⟩
          have htj : t ≤ j := by
            rw [← ht]
            unfold tms
            exact Nat.le_trans List.countP_le_length (by rw [List.length_take]; omega)
          rw [ht]
          have Ht := Lib.hid ht
          clear hkz ht
          by_cases hgj : j < m
          · obtain ⟨y, hy⟩ : ∃ y, O2[j]? = some y := ⟨_, List.getElem?_eq_getElem (by have := HL.out.1; omega)⟩
            obtain ⟨yb, yo, hya, hyb, hyc⟩ := (HOr.out.keep0 Hkz.out).at hy
            cases hya
            have htk := tms_take (x := x) hy
            rw [Ht.out] at htk
            have Htk := Lib.hid htk
            have d2 : decide ((j : Int) < (m : Int)) = true := decide_eq_true (by omega)
            have hw2 : IntKind.i64.wrap ((j : Int) + 1) = (j : Int) + 1 := IntWalk.i64_in _ (by omega)
            have hw3 : IntKind.i64.wrap ((t : Int) + 1) = (t : Int) + 1 := IntWalk.i64_in _ (by omega)
            clear hy htk hlb hyb
            by_cases hyx : y = x
            · subst hyx
              have he : (y.toList == y.toList) = true := by simp
              have e1 := Htk.out
              rw [if_pos rfl] at e1
              have He1 := Lib.hid e1
              clear e1
              go_wp2_with fail
              go_quiet (fail)
              go_wp2_with fail
              go_roundw
              case rel => exact ⟨j + 1, hgj, by go_num, by rw [He1.out]; go_num, Hkz.out.drewN _⟩
              case measure => simp [intOf]; omega
            · have he := tx_ne hyx
              have e1 := Htk.out
              rw [if_neg hyx] at e1
              have He1 := Lib.hid e1
              clear e1 hyx
              go_wp2_with fail
              go_quiet (fail)
              go_wp2_with fail
              go_roundw
              case rel => exact ⟨j + 1, hgj, by go_num, by rw [He1.out]; go_num, Hkz.out.drewN _⟩
              case measure => simp [intOf]; omega
          · have d2 : decide ((j : Int) < (m : Int)) = false := decide_eq_false (by omega)
            have ht1 : t = 1 := by
              have h1 := Ht.out
              rw [List.take_of_length_le (by have := HL.out.1; omega)] at h1
              rw [← h1]
              exact tms_ow HO.out HNd.out.2.nodup (List.mem_of_getElem? Hx.out)
            subst ht1
            by_cases hi0 : i = 0
            · subst hi0
              clear hlc
              go_wp2_with fail
              go_quiet (fail)
              go_wp2_with fail
              go_roundw
              case rel => exact ⟨0 + 1, hgo, by go_num, Hkz.out.drewN _⟩
              case measure => simp [intOf]; omega
            · have hi1 : 0 < i := Nat.pos_of_ne_zero hi0
              have p1 : IntKind.i64.wrap ((i : Int) - 1) = (i : Int) - 1 := by rw [IntKind.wrap_i64]; omega
              have p2 : (0 : Int) ≤ (i : Int) - 1 := by omega
              have p3 : (i : Int) - 1 < (m : Int) := by omega
              have p4 : ((i : Int) - 1).toNat = i - 1 := by omega
              have p5 : decide ((0 : Int) < (i : Int)) = true := decide_eq_true (by omega)
              have p6 : ¬ (i : Int) - 1 < 0 := by omega
              obtain ⟨z, hz⟩ : ∃ z, L[i - 1]? = some z := ⟨_, List.getElem?_eq_getElem (by have := HL.out.2.1; omega)⟩
              obtain ⟨lb', lo', hh', hlb', hzc⟩ := (HLr.out.keep0 Hkz.out).at hz
              cases hh'
              have hlt := rise_at HNd.out.2 hz (by rw [Nat.sub_add_cancel (by omega)]; exact Hx.out)
              have hb1 := tx_lt hlt
              have hb2 := tx_nlt (x := x) (y := z) (fun h => List.lt_irrefl _ (List.lt_trans hlt h))
              have hb3 := tx_ne (x := z) (y := x) (fun e => by subst e; exact List.lt_irrefl _ hlt)
              clear hz hlb' hlt
              go_wp2_with fail
              go_quiet (fail)
              go_wp2_with fail
              go_roundw
              case rel => exact ⟨i + 1, hgo, by go_num, Hkz.out.drewN _⟩
              case measure => simp [intOf]; omega
      · have d1 : decide ((i : Int) < (m : Int)) = false := decide_eq_false (by omega)
        have HOw := Lib.hid (HOo.out.keep Hkr.out (fun _ _ h => h))
        have HRw := Lib.hid (HR4.out.keep0 Hkr.out)
        have Hkw := Lib.hid (Hk4.out.trans Hkr.out)
        have Hsw := Lib.hid Hkr.out.size
        clear Hkr
        go_wp2_with fail
        refine (owners_any wr w0.heap.size rb L (by have := Hsw.out; have := Hs4.out; omega) HRw.out h8 HNd.out.2 HsL.out key hks n).mono ?_
        rintro _ w6 ⟨sa, sc, O6, S, hO6, hS, rfl, OwS, R6, k6⟩
        have e6 : O6 = O2 := hO6.uniq HO.out (List.Perm.refl _)
        subst e6
        have HS := Lib.hid hS
        have HS6 := Lib.hid (rds_own OwS)
        have HO6 := Lib.hid (rds_own' (HOw.out.keep k6 (fun g hg e => by have e' : g = rb := e; have := HOw.out.fresh g hg; have := Hrb.out; omega)))
        have Hk6 := Lib.hid (Hkw.out.trans' k6 (fun q hq e => by have e' : q = rb := e; have := hrb; have := Hk0.out.size; omega) : Keep NoB w w6)
        have hSl : S.length = min n.toNat m := by rw [← hS, List.length_take, HL.out.1]
        have hSm : S.length ≤ m := by omega
        have hfin : (S.length : Int) = max 0 (min n (m : Int)) := by omega
        have Hfin := Lib.hid hfin
        clear hO6 hS OwS R6 k6 hSl HRw HOw Hkw
        obtain ⟨s, hs⟩ : ∃ s, S.length = s := ⟨_, rfl⟩
        have Hs := Lib.hid hs
        rw [hs] at hfin hSm ⊢
        clear hs
        skip
        go_wp2_with fail
        go_loopw [125] (fun iv wz => ∃ i : Nat, i ≤ s ∧ iv = .int .i64 (i : Int) ∧ Keep NoB w6 wz) (fun iv _ => s - (intOf iv).toNat)
        case atStart => exact ⟨0, Nat.zero_le _, rfl, Keep.refl _ _⟩
        case round =>
          obtain ⟨i, hi, rfl, hkz⟩ := hrel
          have Hkz := Lib.hid hkz
          clear hkz
          by_cases hgo : i < s
          · obtain ⟨x, hx⟩ : ∃ x, S[i]? = some x := ⟨_, List.getElem?_eq_getElem (by rw [Hs.out]; exact hgo)⟩
            have hx' : O6[i]? = some x := by
              rw [← HS.out, List.getElem?_take] at hx
              split at hx
              · exact hx
              · exact absurd hx (by simp)
            obtain ⟨lb, lo, rfl, _, hlc⟩ := (HS6.out.keep0 Hkz.out).at hx
            obtain ⟨yb, yo, hya, _, hyc⟩ := (HO6.out.keep0 Hkz.out).at hx'
            cases hya
            have he : (x.toList == x.toList) = true := by simp
            have him : i < m := by omega
            have d2 : decide ((i : Int) < (s : Int)) = true := decide_eq_true (by omega)
            have hw2 : IntKind.i64.wrap ((i : Int) + 1) = (i : Int) + 1 := IntWalk.i64_in _ (by omega)
            clear hx hx'
            go_wp2_with fail
            go_quiet (fail)
            go_wp2_with fail
            go_roundw
            case rel => exact ⟨i + 1, hgo, by go_num, Hkz.out.drewN _⟩
            case measure => simp [intOf]; omega
          · have d2 : decide ((i : Int) < (s : Int)) = false := decide_eq_false (by omega)
            go_wp2_with fail
            go_ret
            exact ⟨rfl, (Hk6.out.trans Hkz.out).below (fun _ _ h => h)⟩
end Go.Proofs.YtopgepifakdpfaaDoor
