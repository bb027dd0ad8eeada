/- The reference's Nodes. -/
import Derived.Test.YtopgepifakdpfaaDoorRingBub
namespace Go.Proofs.YtopgepifakdpfaaDoor
open Go Go.RowKit Go.Maps Go.Sort
set_option maxRecDepth 100000

theorem fe_full : ∀ (l acc : List BA), 8 ≤ acc.length → fe acc l = acc := by
  intro l
  induction l with
  | nil => intro acc _; exact fe_nil acc
  | cons x r ih => intro acc h; rw [fe_cons, if_neg (by omega)]; exact ih acc h
theorem mem_take_next {F : List BA} {k : Nat} {x y : BA} (h : F[k]? = some y) : x ∈ F.take (k + 1) ↔ x ∈ F.take k ∨ y = x := by
  obtain ⟨h1, h2⟩ := List.getElem?_eq_some_iff.1 h
  rw [List.take_succ_eq_append_getElem h1, List.mem_append, List.mem_singleton, h2]
  exact ⟨fun h => h.imp id Eq.symm, fun h => h.imp id Eq.symm⟩

def NodesP (N : List BA) (w : World) (e : Ending) (w' : World) : Prop := ∃ (a : Option Addr) (c : Nat) (L : List BA), e = .returned (.slice a L.length c) ∧ Nds N L ∧ Own w' w.heap.size 9 1 cS (.slice a L.length c) L ∧ Keep NoB w w'



set_option maxHeartbeats 8000000 in
theorem rnodes_any (w : World) (a0 : Option Addr) (c0 m : Nat) (N : List BA) (h : RdS w a0 N) (hm : N.length = m) (hl : m ≤ 1000) :
    Calls Tryd.prog 18 #[.slice a0 m c0] w (NodesP N w) := by
  have HN := Lib.hid h
  have HM := Lib.hid hm
  clear h hm
  go_enter Tryd.func18, Tryd.ntmps18
  go_wp2_with fail
  go_loopw [3, 4] (fun ov iv wr => ∃ (i : Nat) (a : Option Addr) (c : Nat) (F : List BA), i ≤ m ∧ iv = .int .i64 (i : Int) ∧ ov = .slice a F.length c ∧ fe [] (N.take i) = F ∧ Own wr w.heap.size 9 1 cS (.slice a F.length c) F ∧ Keep NoB w wr) (fun _ iv _ => m - (intOf iv).toNat)
  case atStart => exact ⟨0, _, 0, [], Nat.zero_le _, rfl, rfl, by rw [List.take_zero, fe_nil], Own.empty w (Nat.le_refl _) 9 1 cS, (Keep.refl NoB w).alloc _⟩
  case round =>
    obtain ⟨i, a, c, F, hi, rfl, rfl, hF, O, hkr⟩ := hrel
    have hF8 : F.length ≤ 8 := by rw [← hF]; exact fe_len _ _ (by simp)
    have HF := Lib.hid hF
    have HO := Lib.hid O
    have Hkr := Lib.hid hkr
    clear hF O hkr
    by_cases hgo : i < m ∧ F.length < 8
    · obtain ⟨him, hf8⟩ := hgo
      obtain ⟨x, hx⟩ : ∃ x, N[i]? = some x := ⟨_, List.getElem?_eq_getElem (by rw [HM.out]; exact him)⟩
      have hst := fe_take hx
      rw [HF.out] at hst
      have Hst := Lib.hid hst
      have Hx := Lib.hid hx
      have d1 : decide ((i : Int) < (m : Int)) = true := decide_eq_true (by omega)
      have d2 : decide ((F.length : Int) < 8) = true := decide_eq_true (by omega)
      have hw1 : IntKind.i64.wrap ((i : Int) + 1) = (i : Int) + 1 := IntWalk.i64_in _ (by omega)
      clear hst hx
      go_wp2_with fail
      go_loopw [5, 6] (fun tv kv wz => ∃ k : Nat, k ≤ F.length ∧ kv = .int .i64 (k : Int) ∧ tv = .bool (decide (x ∈ F.take k)) ∧ Keep NoB wr wz) (fun _ kv _ => F.length - (intOf kv).toNat)
      case atStart => exact ⟨0, Nat.zero_le _, rfl, by simp, Keep.refl _ _⟩
      case round =>
        obtain ⟨k, hk, rfl, rfl, hkz⟩ := hrel
        have Hkz := Lib.hid hkz
        clear hkz
        by_cases hgk : k < F.length
        · obtain ⟨y, hy⟩ : ∃ y, F[k]? = some y := ⟨_, List.getElem?_eq_getElem hgk⟩
          have htk := mem_take_next (x := x) hy
          have Htk := Lib.hid htk
          have d3 : decide ((k : Int) < (F.length : Int)) = true := decide_eq_true (by omega)
          have hw2 : IntKind.i64.wrap ((k : Int) + 1) = (k : Int) + 1 := IntWalk.i64_in _ (by omega)
          by_cases hin : x ∈ F.take k
          · have hq : decide (x ∈ F.take k) = true := decide_eq_true hin
            rw [hq]
            have Hin := Lib.hid hin
            clear hin hq hy htk
            go_wp2_with fail
            go_quiet (fail)
            go_wp2_with fail
            go_roundw
            case rel => exact ⟨k + 1, hgk, by go_num, by rw [decide_eq_true (Htk.out.2 (Or.inl Hin.out))], Hkz.out.drewN _⟩
            case measure => simp [intOf]; omega
          · have hq : decide (x ∈ F.take k) = false := decide_eq_false hin
            rw [hq]
            have Hin := Lib.hid hin
            obtain ⟨lb, lo, rfl, _, hlc⟩ := (HN.out.keep0 (Hkr.out.trans Hkz.out)).at Hx.out
            obtain ⟨yb, yo, rfl, _, hyc⟩ := (rds_own (HO.out.keep Hkz.out (fun _ _ h => h))).at hy
            clear hin hq hy htk
            by_cases hyx : y = x
            · subst hyx
              have hq1 : (y.toList == y.toList) = true := by simp
              go_wp2_with fail
              go_quiet (fail)
              go_wp2_with fail
              go_roundw
              case rel => exact ⟨k + 1, hgk, by go_num, by rw [decide_eq_true (Htk.out.2 (Or.inr (by simp)))], Hkz.out.drewN _⟩
              case measure => simp [intOf]; omega
            · have hq1 := tx_ne hyx
              have Hyx := Lib.hid hyx
              clear hyx
              go_wp2_with fail
              go_quiet (fail)
              go_wp2_with fail
              go_roundw
              case rel => exact ⟨k + 1, hgk, by go_num, by rw [decide_eq_false (fun h => (Htk.out.1 h).elim Hin.out Hyx.out)], Hkz.out.drewN _⟩
              case measure => simp [intOf]; omega
        · have d3 : decide ((k : Int) < (F.length : Int)) = false := decide_eq_false (by omega)
          have hall : F.take k = F := List.take_of_length_le (by omega)
          rw [hall]
          have HOz := Lib.hid (HO.out.keep Hkz.out (fun _ _ h => h))
          have Hkz2 := Lib.hid (Hkr.out.trans Hkz.out)
          clear hall
          by_cases hin : x ∈ F
          · have hq : decide (x ∈ F) = true := decide_eq_true hin
            rw [hq]
            have e1 := Hst.out
            rw [if_neg (fun h => h.2 hin)] at e1
            have He1 := Lib.hid e1
            clear e1 hin hq
            go_wp2_with fail
            go_roundw
            case rel => exact ⟨i + 1, a, c, F, him, by go_num, rfl, He1.out, HOz.out, Hkz2.out⟩
            case measure => simp [intOf]; omega
          · have hq : decide (x ∈ F) = false := decide_eq_false hin
            rw [hq]
            have e1 := Hst.out
            rw [if_pos ⟨hf8, hin⟩] at e1
            obtain ⟨F', hF'⟩ : ∃ l, F ++ [x] = l := ⟨_, rfl⟩
            rw [hF'] at e1
            have HF' := Lib.hid hF'
            have He1 := Lib.hid e1
            obtain ⟨lb, lo, rfl, _, hlc⟩ := (HN.out.keep0 Hkz2.out).at Hx.out
            have hws : w.heap.size ≤ wr.heap.size := Hkz2.out.size
            clear e1 hin hq hF'
            go_wp2_with (at_builtin; refine wpList_append_one (B := w.heap.size) rfl (.tmp 42) (.tmp 47) 22 rfl Tryd.underlying22 info9' (by kernel_rfl) (by decide) (by decide) rfl (HOz.out.alloc (.cells #[.string x] 9)) cS_len x rfl (c := #[.string x]) (t' := 9) (f := (0, 0)) (blk_new wr _) rfl (cS_one _) (by omega) (by simp; omega) HF'.out ?_; intro a4 c4 w4 O4 k4; have HO4 := Lib.hid O4; have Hk4 := Lib.hid ((HOz.out.alloc (.cells #[.string x] 9)).knob (Hkz2.out.alloc _) k4); clear O4 k4)
            go_roundw
            case rel => exact ⟨i + 1, a4, c4, F', him, by go_num, rfl, He1.out, HO4.out, Hk4.out⟩
            case measure => simp [intOf]; omega
    · have hfe : fe [] N = F := by
        by_cases him : i < m
        · have h8 : 8 ≤ F.length := by
            by_cases h : F.length < 8
            · exact absurd ⟨him, h⟩ hgo
            · omega
          have := fe_app (N.take i) (N.drop i) []
          rw [List.take_append_drop, HF.out, fe_full _ _ h8] at this
          exact this
        · have h1 := HF.out
          rw [List.take_of_length_le (by rw [HM.out]; omega)] at h1
          exact h1
      have hd : decide ((i : Int) < (m : Int)) = false ∨ (decide ((i : Int) < (m : Int)) = true ∧ decide ((F.length : Int) < 8) = false) := by
        by_cases him : i < m
        · exact Or.inr ⟨decide_eq_true (by omega), decide_eq_false (fun h => hgo ⟨him, by omega⟩)⟩
        · exact Or.inl (decide_eq_false (by omega))
      have hd' : ¬ i < m ∨ (i < m ∧ ¬ F.length < 8) := by
        by_cases him : i < m
        · exact Or.inr ⟨him, fun h => hgo ⟨him, h⟩⟩
        · exact Or.inl him
      obtain ⟨n, hn⟩ : ∃ n, F.length = n := ⟨_, rfl⟩
      have O1 := HO.out
      rw [hn] at hd hd' hF8 O1 ⊢
      have HO1 := Lib.hid O1
      have Hn := Lib.hid (show F.length = n ∧ F.Nodup ∧ fe [] N = F from ⟨hn, by rw [← hfe]; exact fe_nodup N [] List.nodup_nil, hfe⟩)
      clear hfe hgo hn O1 HO
      have hd2 : (decide ((i : Int) < (m : Int)) = false ∧ ¬ i < m) ∨ (decide ((i : Int) < (m : Int)) = true ∧ i < m ∧ decide ((n : Int) < 8) = false ∧ ¬ n < 8) := by
        by_cases him : i < m
        · exact Or.inr ⟨decide_eq_true (by omega), him, decide_eq_false (by omega), by omega⟩
        · exact Or.inl ⟨decide_eq_false (by omega), him⟩
      clear hd hd'
      rcases hd2 with ⟨d1, d2⟩ | ⟨d1, d2, d3, d4⟩
      all_goals
        go_wp2_with fail
        go_loopw [7] (fun iv wz => ∃ (r : Nat) (M : List BA), r ≤ n ∧ iv = .int .i64 (r : Int) ∧ M.Perm F ∧ Bub n r M ∧ Own wz w.heap.size 9 1 cS (.slice a n c) M ∧ Keep NoB w wz) (fun iv _ => n - (intOf iv).toNat)
        case atStart => exact ⟨0, F, Nat.zero_le _, rfl, List.Perm.refl _, Bub.start n F, HO1.out, Hkr.out⟩
        case round =>
          clear HO1 Hkr
          obtain ⟨r, M, hr, rfl, hMp, hB, OM, hkr⟩ := hrel
          have HMp := Lib.hid hMp
          have HB := Lib.hid hB
          have HOM := Lib.hid OM
          have Hkr := Lib.hid hkr
          clear hMp hB OM hkr
          by_cases hgr : r < n
          · have d5 : decide ((r : Int) < (n : Int)) = true := decide_eq_true (by omega)
            have hw1 : IntKind.i64.wrap ((r : Int) + 1) = (r : Int) + 1 := IntWalk.i64_in _ (by omega)
            go_wp2_with fail
            go_loopw [8] (fun kv wx => ∃ (k : Nat) (M : List BA), k < n ∧ kv = .int .i64 (k : Int) ∧ M.Perm F ∧ Bin n r k M ∧ Own wx w.heap.size 9 1 cS (.slice a n c) M ∧ Keep NoB w wx) (fun kv _ => n - (intOf kv).toNat)
            case atStart => exact ⟨0, M, by omega, rfl, HMp.out, Bin.start HB.out hgr (fun _ => Or.inr trivial), HOM.out, Hkr.out⟩
            case round =>
              clear HOM Hkr HB HMp M
              obtain ⟨k, M, hk, rfl, hMp, hB, OM, hkx⟩ := hrel
              have hMl : M.length = n := by rw [hMp.length_eq]; exact Hn.out.1
              have HMp := Lib.hid hMp
              have HB := Lib.hid hB
              have HOM := Lib.hid OM
              have Hkx := Lib.hid hkx
              have hw2 : IntKind.i64.wrap ((k : Int) + 1) = (k : Int) + 1 := IntWalk.i64_in _ (by omega)
              clear hMp hB OM hkx
              by_cases hgk : k + 1 < n
              · obtain ⟨x, hx⟩ : ∃ x, M[k]? = some x := ⟨_, List.getElem?_eq_getElem (by omega)⟩
                obtain ⟨y, hy⟩ : ∃ y, M[k + 1]? = some y := ⟨_, List.getElem?_eq_getElem (by omega)⟩
                obtain ⟨g, hga, hgw, _⟩ := Own.some HOM.out (by intro e; rw [e] at hx; simp at hx)
                subst hga
                have HOd := Lib.hid (HOM.out.keep ((Keep.refl NoB wr).drew) (fun _ _ h => h))
                have Hkd := Lib.hid (Hkx.out.trans ((Keep.refl NoB wr).drew))
                have Hgw := Lib.hid hgw
                have m1 := own_at HOd.out hx
                have m2 := own_at HOd.out hy
                have Hst := Lib.hid (show ∀ h : bs y < bs x, Bin n r (k + 1) ((M.set k y).set (k + 1) x) from fun h => HB.out.swap hgk hx hy h)
                have Hsy := Lib.hid (show ¬ bs y < bs x → Bin n r (k + 1) M from fun h => HB.out.stay hgk hx hy h)
                have Hsp := Lib.hid ((swap_perm hx hy).trans HMp.out)
                have d6 : decide ((k : Int) + 1 < (n : Int)) = true := decide_eq_true (by omega)
                have p2 : (0 : Int) ≤ (k : Int) + 1 := by omega
                have p3 : (k : Int) + 1 < (n : Int) := by omega
                have p4 : ((k : Int) + 1).toNat = k + 1 := by omega
                have p5 : ¬ (k : Int) + 1 < 0 := by omega
                have hkn : k < n := by omega
                clear hx hy HB
                by_cases hlt : bs y < bs x
                · have t1 := tx_lt hlt
                  have HB2 := Lib.hid (Hst.out hlt)
                  clear hlt Hst Hsy
                  go_wp2_with fail
                  refine wp_region_pl (fun u => u.cell? ⟨g, k, none⟩ = some (.string x) ∧ u.cell? ⟨g, k + 1, none⟩ = some (.string y)) [] (.rd 0 (.rd 1 (.rd 2 (.rd 3 (.rd 4 (.rd 5 (.rd 6 (.rd 7 (.rd 8 (.rd 9 .done)))))))))) (by kernel_rfl) (by kernel_rfl) (by kernel_rfl) (by kernel_rfl) (by intro c b d v u h; cases d <;> exact h) ?_
                  have HS := Lib.hid (show wr.drew.cell? ⟨g, k, none⟩ = some (.string x) ∧ wr.drew.cell? ⟨g, k + 1, none⟩ = some (.string y) from ⟨m1.1, m2.1⟩)
                  obtain ⟨m1, m1f⟩ := m1
                  obtain ⟨m2, m2f⟩ := m2
                  generalize wr.drew = wd at HOd Hkd HS m1 m1f m2 m2f ⊢
                  first
                    | refine pl_get (i := 0) rfl rfl HS.out rfl (fun u hu => by (try dsimp only at hu); go_simp; rfl) (by simp only [List.setIfInBounds_toArray, List.set_cons_succ, List.set_cons_zero]; rfl) ?_
                    | refine pl_skip (i := 0) rfl rfl HS.out rfl (by simp only [List.setIfInBounds_toArray, List.set_cons_succ, List.set_cons_zero]; rfl) ?_
                  first
                    | refine pl_get (i := 1) rfl rfl HS.out rfl (fun u hu => by (try dsimp only at hu); go_simp; rfl) (by simp only [List.setIfInBounds_toArray, List.set_cons_succ, List.set_cons_zero]; rfl) ?_
                    | refine pl_skip (i := 1) rfl rfl HS.out rfl (by simp only [List.setIfInBounds_toArray, List.set_cons_succ, List.set_cons_zero]; rfl) ?_
                  first
                    | refine pl_get (i := 2) rfl rfl HS.out rfl (fun u hu => by (try dsimp only at hu); go_simp; rfl) (by simp only [List.setIfInBounds_toArray, List.set_cons_succ, List.set_cons_zero]; rfl) ?_
                    | refine pl_skip (i := 2) rfl rfl HS.out rfl (by simp only [List.setIfInBounds_toArray, List.set_cons_succ, List.set_cons_zero]; rfl) ?_
                  first
                    | refine pl_get (i := 3) rfl rfl HS.out rfl (fun u hu => by (try dsimp only at hu); go_simp; rfl) (by simp only [List.setIfInBounds_toArray, List.set_cons_succ, List.set_cons_zero]; rfl) ?_
                    | refine pl_skip (i := 3) rfl rfl HS.out rfl (by simp only [List.setIfInBounds_toArray, List.set_cons_succ, List.set_cons_zero]; rfl) ?_
                  first
                    | refine pl_get (i := 4) rfl rfl HS.out rfl (fun u hu => by (try dsimp only at hu); go_simp; rfl) (by simp only [List.setIfInBounds_toArray, List.set_cons_succ, List.set_cons_zero]; rfl) ?_
                    | refine pl_skip (i := 4) rfl rfl HS.out rfl (by simp only [List.setIfInBounds_toArray, List.set_cons_succ, List.set_cons_zero]; rfl) ?_
                  first
                    | refine pl_get (i := 5) rfl rfl HS.out rfl (fun u hu => by (try dsimp only at hu); go_simp; rfl) (by simp only [List.setIfInBounds_toArray, List.set_cons_succ, List.set_cons_zero]; rfl) ?_
                    | refine pl_skip (i := 5) rfl rfl HS.out rfl (by simp only [List.setIfInBounds_toArray, List.set_cons_succ, List.set_cons_zero]; rfl) ?_
                  first
                    | refine pl_get (i := 6) rfl rfl HS.out rfl (fun u hu => by (try dsimp only at hu); go_simp; rfl) (by simp only [List.setIfInBounds_toArray, List.set_cons_succ, List.set_cons_zero]; rfl) ?_
                    | refine pl_skip (i := 6) rfl rfl HS.out rfl (by simp only [List.setIfInBounds_toArray, List.set_cons_succ, List.set_cons_zero]; rfl) ?_
                  first
                    | refine pl_get (i := 7) rfl rfl HS.out rfl (fun u hu => by (try dsimp only at hu); go_simp; rfl) (by simp only [List.setIfInBounds_toArray, List.set_cons_succ, List.set_cons_zero]; rfl) ?_
                    | refine pl_skip (i := 7) rfl rfl HS.out rfl (by simp only [List.setIfInBounds_toArray, List.set_cons_succ, List.set_cons_zero]; rfl) ?_
                  first
                    | refine pl_get (i := 8) rfl rfl HS.out rfl (fun u hu => by (try dsimp only at hu); go_simp; rfl) (by simp only [List.setIfInBounds_toArray, List.set_cons_succ, List.set_cons_zero]; rfl) ?_
                    | refine pl_skip (i := 8) rfl rfl HS.out rfl (by simp only [List.setIfInBounds_toArray, List.set_cons_succ, List.set_cons_zero]; rfl) ?_
                  first
                    | refine pl_get (i := 9) rfl rfl HS.out rfl (fun u hu => by (try dsimp only at hu); go_simp; rfl) (by simp only [List.setIfInBounds_toArray, List.set_cons_succ, List.set_cons_zero]; rfl) ?_
                    | refine pl_skip (i := 9) rfl rfl HS.out rfl (by simp only [List.setIfInBounds_toArray, List.set_cons_succ, List.set_cons_zero]; rfl) ?_
                  refine pl_done ?_
                  go_wp2_with fail
                  go_roundw
                  case rel =>
                    have O1 := own_set HOd.out (i := k) (by omega) y
                    have O2 := own_set O1 (i := k + 1) (by rw [List.length_set]; omega) x
                    exact ⟨k + 1, _, hgk, by go_num, Hsp.out, HB2.out, O2, (Hkd.out.setCell (Or.inl Hgw.out) _).setCell (Or.inl Hgw.out) _⟩
                  case measure => simp [intOf]; omega
                · have t1 := tx_nlt hlt
                  have HB2 := Lib.hid (Hsy.out hlt)
                  clear hlt Hst Hsy
                  go_wp2_with fail
                  refine wp_region_pl (fun u => u.cell? ⟨g, k, none⟩ = some (.string x) ∧ u.cell? ⟨g, k + 1, none⟩ = some (.string y)) [] (.rd 0 (.rd 1 (.rd 2 (.rd 3 (.rd 4 (.rd 5 (.rd 6 (.rd 7 (.rd 8 (.rd 9 .done)))))))))) (by kernel_rfl) (by kernel_rfl) (by kernel_rfl) (by kernel_rfl) (by intro c b d v u h; cases d <;> exact h) ?_
                  have HS := Lib.hid (show wr.drew.cell? ⟨g, k, none⟩ = some (.string x) ∧ wr.drew.cell? ⟨g, k + 1, none⟩ = some (.string y) from ⟨m1.1, m2.1⟩)
                  obtain ⟨m1, m1f⟩ := m1
                  obtain ⟨m2, m2f⟩ := m2
                  generalize wr.drew = wd at HOd Hkd HS m1 m1f m2 m2f ⊢
                  first
                    | refine pl_get (i := 0) rfl rfl HS.out rfl (fun u hu => by (try dsimp only at hu); go_simp; rfl) (by simp only [List.setIfInBounds_toArray, List.set_cons_succ, List.set_cons_zero]; rfl) ?_
                    | refine pl_skip (i := 0) rfl rfl HS.out rfl (by simp only [List.setIfInBounds_toArray, List.set_cons_succ, List.set_cons_zero]; rfl) ?_
                  first
                    | refine pl_get (i := 1) rfl rfl HS.out rfl (fun u hu => by (try dsimp only at hu); go_simp; rfl) (by simp only [List.setIfInBounds_toArray, List.set_cons_succ, List.set_cons_zero]; rfl) ?_
                    | refine pl_skip (i := 1) rfl rfl HS.out rfl (by simp only [List.setIfInBounds_toArray, List.set_cons_succ, List.set_cons_zero]; rfl) ?_
                  first
                    | refine pl_get (i := 2) rfl rfl HS.out rfl (fun u hu => by (try dsimp only at hu); go_simp; rfl) (by simp only [List.setIfInBounds_toArray, List.set_cons_succ, List.set_cons_zero]; rfl) ?_
                    | refine pl_skip (i := 2) rfl rfl HS.out rfl (by simp only [List.setIfInBounds_toArray, List.set_cons_succ, List.set_cons_zero]; rfl) ?_
                  first
                    | refine pl_get (i := 3) rfl rfl HS.out rfl (fun u hu => by (try dsimp only at hu); go_simp; rfl) (by simp only [List.setIfInBounds_toArray, List.set_cons_succ, List.set_cons_zero]; rfl) ?_
                    | refine pl_skip (i := 3) rfl rfl HS.out rfl (by simp only [List.setIfInBounds_toArray, List.set_cons_succ, List.set_cons_zero]; rfl) ?_
                  first
                    | refine pl_get (i := 4) rfl rfl HS.out rfl (fun u hu => by (try dsimp only at hu); go_simp; rfl) (by simp only [List.setIfInBounds_toArray, List.set_cons_succ, List.set_cons_zero]; rfl) ?_
                    | refine pl_skip (i := 4) rfl rfl HS.out rfl (by simp only [List.setIfInBounds_toArray, List.set_cons_succ, List.set_cons_zero]; rfl) ?_
                  first
                    | refine pl_get (i := 5) rfl rfl HS.out rfl (fun u hu => by (try dsimp only at hu); go_simp; rfl) (by simp only [List.setIfInBounds_toArray, List.set_cons_succ, List.set_cons_zero]; rfl) ?_
                    | refine pl_skip (i := 5) rfl rfl HS.out rfl (by simp only [List.setIfInBounds_toArray, List.set_cons_succ, List.set_cons_zero]; rfl) ?_
                  first
                    | refine pl_get (i := 6) rfl rfl HS.out rfl (fun u hu => by (try dsimp only at hu); go_simp; rfl) (by simp only [List.setIfInBounds_toArray, List.set_cons_succ, List.set_cons_zero]; rfl) ?_
                    | refine pl_skip (i := 6) rfl rfl HS.out rfl (by simp only [List.setIfInBounds_toArray, List.set_cons_succ, List.set_cons_zero]; rfl) ?_
                  first
                    | refine pl_get (i := 7) rfl rfl HS.out rfl (fun u hu => by (try dsimp only at hu); go_simp; rfl) (by simp only [List.setIfInBounds_toArray, List.set_cons_succ, List.set_cons_zero]; rfl) ?_
                    | refine pl_skip (i := 7) rfl rfl HS.out rfl (by simp only [List.setIfInBounds_toArray, List.set_cons_succ, List.set_cons_zero]; rfl) ?_
                  first
                    | refine pl_get (i := 8) rfl rfl HS.out rfl (fun u hu => by (try dsimp only at hu); go_simp; rfl) (by simp only [List.setIfInBounds_toArray, List.set_cons_succ, List.set_cons_zero]; rfl) ?_
                    | refine pl_skip (i := 8) rfl rfl HS.out rfl (by simp only [List.setIfInBounds_toArray, List.set_cons_succ, List.set_cons_zero]; rfl) ?_
                  first
                    | refine pl_get (i := 9) rfl rfl HS.out rfl (fun u hu => by (try dsimp only at hu); go_simp; rfl) (by simp only [List.setIfInBounds_toArray, List.set_cons_succ, List.set_cons_zero]; rfl) ?_
                    | refine pl_skip (i := 9) rfl rfl HS.out rfl (by simp only [List.setIfInBounds_toArray, List.set_cons_succ, List.set_cons_zero]; rfl) ?_
                  refine pl_done ?_
                  go_wp2_with fail
                  go_roundw
                  case rel => exact ⟨k + 1, M, hgk, by go_num, HMp.out, HB2.out, HOd.out, Hkd.out⟩
                  case measure => simp [intOf]; omega
              · have d6 : decide ((k : Int) + 1 < (n : Int)) = false := decide_eq_false (by omega)
                have HB2 := Lib.hid (HB.out.next (by omega) hgr)
                have p3 : ¬ (k : Int) + 1 < (n : Int) := by omega
                go_wp2_with fail
                go_roundw
                case rel => exact ⟨r + 1, M, hgr, by go_num, HMp.out, HB2.out, HOM.out, Hkx.out⟩
                case measure => simp [intOf]; omega
          · have d5 : decide ((r : Int) < (n : Int)) = false := decide_eq_false (by omega)
            have hrn : r = n := by omega
            subst hrn
            have hMl : M.length = r := by rw [HMp.out.length_eq]; exact Hn.out.1
            have hfin : Nds N M := ⟨by rw [Hn.out.2.2]; exact HMp.out, HB.out.rise hMl (HMp.out.nodup_iff.2 Hn.out.2.1)⟩
            have Hfin := Lib.hid (show NodesP N w (.returned (.slice a r c)) wr by
              have O1 := HOM.out
              rw [← hMl] at O1 ⊢
              exact ⟨a, c, M, rfl, hfin, O1, Hkr.out⟩)
            clear hfin hMl
            go_wp2_with fail
            go_ret
            exact Hfin.out
end Go.Proofs.YtopgepifakdpfaaDoor
