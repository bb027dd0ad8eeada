/- The walk of RingBack. -/
import Derived.Test.YtopgepifakdpfaaDoorRingM
namespace Go.Proofs.YtopgepifakdpfaaDoor
open Go Go.RowKit Go.Maps Go.Sort
set_option maxRecDepth 100000

theorem nds_mem {N L : List BA} (h : Nds N L) {x : BA} (hx : x ∈ L) : x ∈ N := by
  have h1 : ∀ (l acc : List BA) (x : BA), x ∈ fe acc l → x ∈ acc ∨ x ∈ l := by
    intro l
    induction l with
    | nil => intro acc x hx; rw [fe_nil] at hx; exact Or.inl hx
    | cons y l ih =>
      intro acc x hx
      rw [fe_cons] at hx
      split at hx
      · rcases ih _ x hx with h | h
        · rcases List.mem_append.1 h with h | h
          · exact Or.inl h
          · rw [List.mem_singleton] at h; subst h; exact Or.inr (by simp)
        · exact Or.inr (by simp [h])
      · rcases ih _ x hx with h | h
        · exact Or.inl h
        · exact Or.inr (by simp [h])
  exact (h1 N [] x (h.1.mem_iff.1 hx)).resolve_left (by simp)
theorem back_same {L L1 : List BA} (hr : RiseB L) (h8 : L.length ≤ 8) {x : BA} (h : Nds (L ++ [x]) L1) : wo x L1 = wo x L := by
  rcases nds_with hr h8 h with ⟨rfl, _⟩ | ⟨hp, hx, _⟩
  · rfl
  · refine rise_uniq (wo_rise h.2 x) (wo_rise hr x) ?_
    have e : wo x (L ++ [x]) = wo x L := by
      unfold wo
      rw [List.filter_append, List.filter_cons_of_neg (by simp)]
      simp
    rw [← e]
    exact hp.filter _
theorem ow_exists {W : BA → Int} {L O O' : List BA} (h : Ow W L O) (h' : Ow W L O') : O' = O := h'.uniq h (List.Perm.refl _)

set_option maxHeartbeats 8000000 in
theorem back_walk (a0 : Option Addr) (l0 c0 : Nat) (z0 : Nat → BA) (node key : BA) (w : World) (hN : RdS w a0 ((List.range l0).map z0)) (hz : l0 ≤ 9223372036854775807) (hsz : ∀ i, i < l0 → (z0 i).size ≤ 140737488355328) (hnode : node.size ≤ 140737488355328) (hks : key.size ≤ maxLen) :
    Calls Tryd.prog 7 #[.slice a0 l0 c0, .string node, .string key] w fun e w' => e = .returned (.bool true) ∧ Below w.heap.size w w' := by
  obtain ⟨N, hNe⟩ : ∃ N, (List.range l0).map z0 = N := ⟨_, rfl⟩
  have hNl : N.length = l0 := by rw [← hNe]; simp
  have hNs : ∀ x ∈ N, x.size ≤ 140737488355328 := by
    intro x hx
    rw [← hNe] at hx
    obtain ⟨i, hi, rfl⟩ := List.mem_map.1 hx
    exact hsz i (List.mem_range.1 hi)
  rw [hNe] at hN
  have HN := Lib.hid hN
  have HNs := Lib.hid hNs
  have HNl := Lib.hid hNl
  clear hN hNs hsz hNe z0
  subst hNl
  go_enter Tryd.func7, Tryd.ntmps7
  go_wp2_with fail
  refine (awake_any _).mono ?_
  rintro _ w0 ⟨rfl, k0⟩
  have Hk0 := Lib.hid k0
  clear k0
  by_cases hl : N.length ≤ 20
  case neg =>
    have d1 : decide (20 < (N.length : Int)) = true := decide_eq_true (by omega)
    go_wp2_with fail
    go_ret
    exact ⟨rfl, Hk0.out.below (fun _ _ h => h)⟩
  have d1 : decide (20 < (N.length : Int)) = false := decide_eq_false (by omega)
  go_wp2_with fail
  refine (new_any w0 a0 c0 N (HN.out.keep0 Hk0.out) (by omega)).mono ?_
  rintro _ w1 ⟨rb, L, rfl, hNd, hR1, k1⟩
  have hsL : ∀ x ∈ L, x.size ≤ 140737488355328 := fun x hx => HNs.out x (nds_mem hNd hx)
  have HsL := Lib.hid hsL
  have HNd := Lib.hid hNd
  have HR1 := Lib.hid hR1
  have Hk1 := Lib.hid k1
  have h8 := hNd.len
  clear hsL hNd hR1 k1
  go_wp2_with fail
  refine (owner_any w1 w0.heap.size rb L Hk1.out.size HR1.out h8 HNd.out.2 HsL.out key hks).mono ?_
  rintro _ w2 ⟨O, hO, rfl, hR2, k2⟩
  have HO := Lib.hid hO
  have HR2 := Lib.hid hR2
  have hrb : w0.heap.size ≤ rb := hR2.1
  have Hk2 := Lib.hid ((Hk0.out.trans Hk1.out).trans' k2 (fun i hi e => by have e' : i = rb := e; have := Hk0.out.size; omega) : Keep NoB w w2)
  have Hs12 := Lib.hid k2.size
  clear hO hR2 k2
  obtain ⟨ow, how⟩ : ∃ q, O.head?.getD ⟨#[]⟩ = q := ⟨_, rfl⟩
  obtain ⟨ob, hob⟩ : ∃ q, O.head?.isSome = q := ⟨_, rfl⟩
  rw [how, hob]
  have How := Lib.hid how
  clear how hob HR1
  go_wp2_with fail
  refine (with_any w2 _ rb L HR2.out h8 node).mono ?_
  rintro _ w3 ⟨rb1, L1, rfl, hNd1, hR3, k3⟩
  have HNd1 := Lib.hid hNd1
  have HR3 := Lib.hid hR3
  have Hk3 := Lib.hid k3
  have h81 := hNd1.len
  clear hNd1 hR3 k3
  go_wp2_with fail
  refine (without_any w3 _ rb1 L1 HR3.out h81 HNd1.out.2 node).mono ?_
  rintro _ w4 ⟨rba, rfl, hR4, k4⟩
  have hA := back_same HNd.out.2 h8 HNd1.out
  rw [hA] at hR4
  have HR4 := Lib.hid hR4
  have Hk4 := Lib.hid k4
  have HR2b := Lib.hid (HR2.out.keep0 (Hk3.out.trans k4))
  have hba : rba < w4.heap.size := by obtain ⟨_, na, nc, dn, sm, pa, pc, P, h1, _⟩ := hR4; exact blk_lt h1
  clear hR4 k4 hA HR3
  go_wp2_with fail
  refine (without_any w4 _ rb L HR2b.out h8 HNd.out.2 node).mono ?_
  rintro _ w5 ⟨rbb, rfl, hR5, k5⟩
  have HR5 := Lib.hid hR5
  have HR45 := Lib.hid (HR4.out.keep0 k5)
  have HR25 := Lib.hid (HR2b.out.keep0 k5)
  have Hk5 := Lib.hid (((Hk2.out.trans Hk3.out).trans Hk4.out).trans k5 : Keep NoB w w5)
  have Hs45 := Lib.hid k5.size
  have Hs34 := Lib.hid Hk4.out.size
  obtain ⟨X, hX⟩ : ∃ l, wo node L = l := ⟨_, rfl⟩
  have hXl : X.length ≤ 8 := by rw [← hX]; exact Nat.le_trans (wo_len L node) h8
  have hXr : RiseB X := by rw [← hX]; exact wo_rise HNd.out.2 node
  have hXs : ∀ x ∈ X, x.size ≤ 140737488355328 := fun x hx => HsL.out x (by rw [← hX] at hx; exact (mem_wo.1 hx).1)
  have hXn : ∀ x ∈ X, x ≠ node := fun x hx => by rw [← hX] at hx; exact (mem_wo.1 hx).2
  rw [hX] at HR5 HR45
  have HX := Lib.hid (show RiseB X ∧ (∀ x ∈ X, x.size ≤ 140737488355328) ∧ (∀ x ∈ X, x ≠ node) from ⟨hXr, hXs, hXn⟩)
  have Hk25 := Lib.hid ((Hk3.out.trans Hk4.out).trans k5)
  have Hs23 := Lib.hid Hk3.out.size
  clear hR5 k5 hX hXr hXs hXn HR4 HR2b Hk4 Hk3 Hk2
  go_wp2_with fail
  refine (nodes_any w5 _ rba X HR45.out hXl).mono ?_
  rintro _ w6 ⟨xa, xc, rfl, hO6, k6⟩
  have HO6 := Lib.hid hO6
  have Hk6 := Lib.hid k6
  clear hO6 k6
  go_wp2_with fail
  refine (nodes_any w6 _ rbb X (HR5.out.keep0 Hk6.out) hXl).mono ?_
  rintro _ w7 ⟨ya, yc, rfl, hO7, k7⟩
  have Hx7 := Lib.hid (rds_own (HO6.out.keep k7 (fun _ _ h => h)))
  have Hy7 := Lib.hid (rds_own hO7)
  have Hk7 := Lib.hid (Hk6.out.trans k7)
  clear hO7 k7 Hk6 HO6
  go_wp2_with fail
  go_loopw [53] (fun iv wr => ∃ i : Nat, i ≤ X.length ∧ iv = .int .i64 (i : Int) ∧ Keep NoB w7 wr) (fun iv _ => X.length - (intOf iv).toNat)
  case atStart => exact ⟨0, Nat.zero_le _, rfl, Keep.refl _ _⟩
  case round =>
    obtain ⟨i, hi, rfl, hkr⟩ := hrel
    have Hkr := Lib.hid hkr
    clear hkr
    by_cases hgo : i < X.length
    · obtain ⟨v, hv⟩ : ∃ v, X[i]? = some v := ⟨_, List.getElem?_eq_getElem hgo⟩
      obtain ⟨xb, xo, rfl, hxb, hxc⟩ := (Hx7.out.keep0 Hkr.out).at hv
      obtain ⟨yb, yo, rfl, hyb, hyc⟩ := (Hy7.out.keep0 Hkr.out).at hv
      have hne := tx_ne (HX.out.2.2 v (List.mem_of_getElem? hv))
      have heq : (v.toList == v.toList) = true := by simp
      have d2 : decide ((i : Int) < (X.length : Int)) = true := decide_eq_true (by omega)
      have hw1 : IntKind.i64.wrap ((i : Int) + 1) = (i : Int) + 1 := IntWalk.i64_in _ (by omega)
      clear hv
      go_wp2_with fail
      refine wp_region_pl (fun u => u.cell? ⟨xb, xo + i, none⟩ = some (.string v) ∧ u.cell? ⟨yb, yo + i, none⟩ = some (.string v)) [] (.rd 0 (.rd 1 (.rd 2 (.rd 3 (.rd 4 (.rd 5 (.rd 6 (.rd 7 (.rd 8 (.rd 9 (.rd 10 (.rd 11 (.rd 12 (.rd 13 (.rd 14 (.rd 15 (.rd 16 .done))))))))))))))))) (by kernel_rfl) (by kernel_rfl) (by kernel_rfl) (by kernel_rfl) (by intro c b d v u h; cases d <;> exact h) ?_
      have HS := Lib.hid (show wr.drew.cell? ⟨xb, xo + i, none⟩ = some (.string v) ∧ wr.drew.cell? ⟨yb, yo + i, none⟩ = some (.string v) from ⟨hxc, hyc⟩)
      have Hkd := Lib.hid (Hkr.out.trans (Keep.refl NoB wr).drew)
      clear hxc hyc hxb hyb
      generalize wr.drew = wd at HS Hkd ⊢
      first
        | refine pl_get (i := 0) rfl rfl HS.out rfl (fun u hu => by (try dsimp only at hu); go_simp; rfl) (by simp only [List.setIfInBounds_toArray, List.set_cons_succ, List.set_cons_zero]; rfl) ?_
        | refine pl_skip (i := 0) rfl rfl HS.out rfl (by simp only [List.setIfInBounds_toArray, List.set_cons_succ, List.set_cons_zero]; rfl) ?_
      first
        | refine pl_get (i := 1) rfl rfl HS.out rfl (fun u hu => by (try dsimp only at hu); go_simp; rfl) (by simp only [List.setIfInBounds_toArray, List.set_cons_succ, List.set_cons_zero]; rfl) ?_
        | refine pl_skip (i := 1) rfl rfl HS.out rfl (by simp only [List.setIfInBounds_toArray, List.set_cons_succ, List.set_cons_zero]; rfl) ?_
      first
        | refine pl_get (i := 2) rfl rfl HS.out rfl (fun u hu => by (try dsimp only at hu); go_simp; rfl) (by simp only [List.setIfInBounds_toArray, List.set_cons_succ, List.set_cons_zero]; rfl) ?_
        | refine pl_skip (i := 2) rfl rfl HS.out rfl (by simp only [List.setIfInBounds_toArray, List.set_cons_succ, List.set_cons_zero]; rfl) ?_
      first
        | refine pl_get (i := 3) rfl rfl HS.out rfl (fun u hu => by (try dsimp only at hu); go_simp; rfl) (by simp only [List.setIfInBounds_toArray, List.set_cons_succ, List.set_cons_zero]; rfl) ?_
        | refine pl_skip (i := 3) rfl rfl HS.out rfl (by simp only [List.setIfInBounds_toArray, List.set_cons_succ, List.set_cons_zero]; rfl) ?_
      first
        | refine pl_get (i := 4) rfl rfl HS.out rfl (fun u hu => by (try dsimp only at hu); go_simp; rfl) (by simp only [List.setIfInBounds_toArray, List.set_cons_succ, List.set_cons_zero]; rfl) ?_
        | refine pl_skip (i := 4) rfl rfl HS.out rfl (by simp only [List.setIfInBounds_toArray, List.set_cons_succ, List.set_cons_zero]; rfl) ?_
      first
        | refine pl_get (i := 5) rfl rfl HS.out rfl (fun u hu => by (try dsimp only at hu); go_simp; rfl) (by simp only [List.setIfInBounds_toArray, List.set_cons_succ, List.set_cons_zero]; rfl) ?_
        | refine pl_skip (i := 5) rfl rfl HS.out rfl (by simp only [List.setIfInBounds_toArray, List.set_cons_succ, List.set_cons_zero]; rfl) ?_
      first
        | refine pl_get (i := 6) rfl rfl HS.out rfl (fun u hu => by (try dsimp only at hu); go_simp; rfl) (by simp only [List.setIfInBounds_toArray, List.set_cons_succ, List.set_cons_zero]; rfl) ?_
        | refine pl_skip (i := 6) rfl rfl HS.out rfl (by simp only [List.setIfInBounds_toArray, List.set_cons_succ, List.set_cons_zero]; rfl) ?_
      first
        | refine pl_get (i := 7) rfl rfl HS.out rfl (fun u hu => by (try dsimp only at hu); go_simp; rfl) (by simp only [List.setIfInBounds_toArray, List.set_cons_succ, List.set_cons_zero]; rfl) ?_
        | refine pl_skip (i := 7) rfl rfl HS.out rfl (by simp only [List.setIfInBounds_toArray, List.set_cons_succ, List.set_cons_zero]; rfl) ?_
      first
        | refine pl_get (i := 8) rfl rfl HS.out rfl (fun u hu => by (try dsimp only at hu); go_simp; rfl) (by simp only [List.setIfInBounds_toArray, List.set_cons_succ, List.set_cons_zero]; rfl) ?_
        | refine pl_skip (i := 8) rfl rfl HS.out rfl (by simp only [List.setIfInBounds_toArray, List.set_cons_succ, List.set_cons_zero]; rfl) ?_
      first
        | refine pl_get (i := 9) rfl rfl HS.out rfl (fun u hu => by (try dsimp only at hu); go_simp; rfl) (by simp only [List.setIfInBounds_toArray, List.set_cons_succ, List.set_cons_zero]; rfl) ?_
        | refine pl_skip (i := 9) rfl rfl HS.out rfl (by simp only [List.setIfInBounds_toArray, List.set_cons_succ, List.set_cons_zero]; rfl) ?_
      first
        | refine pl_get (i := 10) rfl rfl HS.out rfl (fun u hu => by (try dsimp only at hu); go_simp; rfl) (by simp only [List.setIfInBounds_toArray, List.set_cons_succ, List.set_cons_zero]; rfl) ?_
        | refine pl_skip (i := 10) rfl rfl HS.out rfl (by simp only [List.setIfInBounds_toArray, List.set_cons_succ, List.set_cons_zero]; rfl) ?_
      first
        | refine pl_get (i := 11) rfl rfl HS.out rfl (fun u hu => by (try dsimp only at hu); go_simp; rfl) (by simp only [List.setIfInBounds_toArray, List.set_cons_succ, List.set_cons_zero]; rfl) ?_
        | refine pl_skip (i := 11) rfl rfl HS.out rfl (by simp only [List.setIfInBounds_toArray, List.set_cons_succ, List.set_cons_zero]; rfl) ?_
      first
        | refine pl_get (i := 12) rfl rfl HS.out rfl (fun u hu => by (try dsimp only at hu); go_simp; rfl) (by simp only [List.setIfInBounds_toArray, List.set_cons_succ, List.set_cons_zero]; rfl) ?_
        | refine pl_skip (i := 12) rfl rfl HS.out rfl (by simp only [List.setIfInBounds_toArray, List.set_cons_succ, List.set_cons_zero]; rfl) ?_
      first
        | refine pl_get (i := 13) rfl rfl HS.out rfl (fun u hu => by (try dsimp only at hu); go_simp; rfl) (by simp only [List.setIfInBounds_toArray, List.set_cons_succ, List.set_cons_zero]; rfl) ?_
        | refine pl_skip (i := 13) rfl rfl HS.out rfl (by simp only [List.setIfInBounds_toArray, List.set_cons_succ, List.set_cons_zero]; rfl) ?_
      first
        | refine pl_get (i := 14) rfl rfl HS.out rfl (fun u hu => by (try dsimp only at hu); go_simp; rfl) (by simp only [List.setIfInBounds_toArray, List.set_cons_succ, List.set_cons_zero]; rfl) ?_
        | refine pl_skip (i := 14) rfl rfl HS.out rfl (by simp only [List.setIfInBounds_toArray, List.set_cons_succ, List.set_cons_zero]; rfl) ?_
      first
        | refine pl_get (i := 15) rfl rfl HS.out rfl (fun u hu => by (try dsimp only at hu); go_simp; rfl) (by simp only [List.setIfInBounds_toArray, List.set_cons_succ, List.set_cons_zero]; rfl) ?_
        | refine pl_skip (i := 15) rfl rfl HS.out rfl (by simp only [List.setIfInBounds_toArray, List.set_cons_succ, List.set_cons_zero]; rfl) ?_
      first
        | refine pl_get (i := 16) rfl rfl HS.out rfl (fun u hu => by (try dsimp only at hu); go_simp; rfl) (by simp only [List.setIfInBounds_toArray, List.set_cons_succ, List.set_cons_zero]; rfl) ?_
        | refine pl_skip (i := 16) rfl rfl HS.out rfl (by simp only [List.setIfInBounds_toArray, List.set_cons_succ, List.set_cons_zero]; rfl) ?_
      refine pl_done ?_
      go_wp2_with fail
      go_roundw
      case rel => exact ⟨i + 1, hgo, by go_num, Hkd.out⟩
      case measure => simp [intOf]; omega
    · have d2 : decide ((i : Int) < (X.length : Int)) = false := decide_eq_false (by omega)
      have HRa := Lib.hid (HR45.out.keep0 (Hk7.out.trans Hkr.out))
      have HRb := Lib.hid (HR5.out.keep0 (Hk7.out.trans Hkr.out))
      have HRr := Lib.hid (HR25.out.keep0 (Hk7.out.trans Hkr.out))
      have Hkw := Lib.hid (Hk5.out.trans (Hk7.out.trans Hkr.out))
      have HK57 := Lib.hid (Hk7.out.trans Hkr.out)
      clear HR45 HR5 HR25 Hkr Hx7 Hy7
      go_wp2_with fail
      refine (owner_any wr w3.heap.size rba X (by have := HK57.out.size; have := Hs45.out; have := Hs34.out; omega) HRa.out hXl HX.out.1 HX.out.2.1 key hks).mono ?_
      rintro _ w8 ⟨O1, hO1, rfl, hR8, k8⟩
      have HO1 := Lib.hid hO1
      have ha1 : w3.heap.size ≤ rba := hR8.1
      have HRb8 := Lib.hid (HRb.out.keep k8 (fun q hq e => by have e' : q = rba := e; omega))
      have HK28 := Lib.hid ((Hk25.out.trans HK57.out).trans' k8 (fun q hq e => by have e' : q = rba := e; have := Hs23.out; omega) : Keep NoB w2 w8)
      have Hk8 := Lib.hid (Hkw.out.trans' k8 (fun q hq e => by have e' : q = rba := e; have := (Hk0.out.trans Hk1.out).size; have := Hs12.out; have := Hs23.out; omega) : Keep NoB w w8)
      have Hs8 := Lib.hid k8.size
      clear hO1 hR8 k8 HRa HRb HRr
      go_wp2_with fail
      refine (owner_any w8 w4.heap.size rbb X (by have := Hs8.out; have := HK57.out.size; have := Hs45.out; omega) HRb8.out hXl HX.out.1 HX.out.2.1 key hks).mono ?_
      rintro _ w9 ⟨O2, hO2, rfl, hR9, k9⟩
      have e2 : O2 = O1 := hO2.uniq HO1.out (List.Perm.refl _)
      subst e2
      have hb1 : w4.heap.size ≤ rbb := hR9.1
      have HR29 := Lib.hid (HR2.out.keep0 (HK28.out.trans' k9 (fun q hq e => by have e' : q = rbb := e; have := Hs23.out; have := Hs34.out; omega)))
      have Hk9 := Lib.hid (Hk8.out.trans' k9 (fun q hq e => by have e' : q = rbb := e; have := (Hk0.out.trans Hk1.out).size; have := Hs12.out; have := Hs23.out; have := Hs34.out; omega) : Keep NoB w w9)
      have Hs9 := Lib.hid k9.size
      clear hO2 hR9 k9 HRb8
      go_wp2_with fail
      refine (owner_any w9 w0.heap.size rb L (by have := Hs9.out; have := Hs8.out; have := HK57.out.size; have := Hs45.out; have := Hs34.out; have := Hs23.out; have := Hs12.out; have := Hk1.out.size; omega) HR29.out h8 HNd.out.2 HsL.out key hks).mono ?_
      rintro _ w10 ⟨O3, hO3, rfl, hR10, k10⟩
      have e3 : O3 = O := hO3.uniq HO.out (List.Perm.refl _)
      subst e3
      rw [How.out]
      have Hk10 := Lib.hid (Hk9.out.trans' k10 (fun q hq e => by have e' : q = rb := e; have := Hk0.out.size; omega) : Keep NoB w w10)
      have q1 : (ow.toList == ow.toList) = true := by simp
      obtain ⟨pw, hpw⟩ : ∃ q, O2.head?.getD ⟨#[]⟩ = q := ⟨_, rfl⟩
      rw [hpw]
      have q2 : (pw.toList == pw.toList) = true := by simp
      clear hpw hO3 hR10 k10
      go_wp2_with fail
      go_ret
      exact ⟨rfl, Hk10.out.below (fun _ _ h => h)⟩
end Go.Proofs.YtopgepifakdpfaaDoor
