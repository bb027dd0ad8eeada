/- What the work of a ring comes to: its points, sorted. -/
import Derived.Test.YtopgepifakdpfaaDoorRingU
namespace Go.Proofs.YtopgepifakdpfaaDoor
open Go Go.RowKit Go.Maps Go.Sort
set_option maxRecDepth 100000

def ptsK (n : BA) (j : Nat) : List PT := (List.range j).map (fun i => (pt n i, n))
theorem ptsK_succ (n : BA) (j : Nat) : ptsK n (j + 1) = ptsK n j ++ [(pt n j, n)] := by unfold ptsK; rw [List.range_succ, List.map_append]; rfl
theorem pts_take {L : List BA} {k : Nat} {n : BA} (h : L[k]? = some n) : pts pt (L.take (k + 1)) = pts pt (L.take k) ++ ptsK n 16 := by
  obtain ⟨hl, e⟩ := List.getElem?_eq_some_iff.1 h
  unfold pts
  rw [List.take_succ_eq_append_getElem hl, e, List.flatMap_append]
  simp [ptsK]
theorem pts_len (L : List BA) : (pts pt L).length = 16 * L.length := by
  induction L with
  | nil => rfl
  | cons x L ih => unfold pts at *; rw [List.flatMap_cons, List.length_append, ih]; simp; omega
theorem dig_len (j : Nat) (hj : j < 16) : (Lib.decDigits j).length ≤ 2 := by
  by_cases h : j < 10
  · rw [Lib.decDigits_one h]; exact Nat.le_succ 1
  · rw [Lib.decDigits_two h (by omega)]; exact Nat.le_refl 2
theorem str_add (P : Program) (a b : BA) (h : a.size + b.size ≤ 9223372036854775807) (u : World) : (Op.stringOp .add a b).run P u = .ok (.string (a ++ b)) u := by
  unfold Op.stringOp
  simp only
  rw [if_neg (by simp [IntKind.max, IntKind.signed, IntKind.bits]; omega)]
  rfl
theorem itoa_small (i : Nat) (hi : i < 16) (w : World) : Calls Tryd.prog 33 #[.int .i64 (i : Int)] w fun e w' => e = .returned (.string ⟨(Lib.decDigits i).toArray⟩) ∧ w = w' := by
  have h := Any.strconv_Itoa_small Tryd.laysItoa i (by omega) w
  change Calls Tryd.prog 33 _ _ _ at h
  refine h.mono ?_
  rintro _ _ ⟨rfl, rfl⟩
  exact ⟨rfl, rfl⟩

set_option maxHeartbeats 4000000 in
theorem work_any (w : World) (B rb : Nat) (na : Option Addr) (nc : Nat) (dn st sm : Int) (L : List BA) (hB : B ≤ w.heap.size) (hb : w.heap[rb]? = some (.cells #[.slice na L.length nc, .int .u32 dn, .int .i32 st, .int .u32 sm, .slice none 0 0] 54)) (O : Own w B 9 1 cS (.slice na L.length nc) L) (hL : L.length ≤ 8) (hsz : ∀ x ∈ L, x.size ≤ 140737488355328) :
    Calls Tryd.prog 22 #[.pointer (some ⟨rb, 0, none⟩)] w fun e w' => e = .returned (.tuple #[]) ∧ ∃ (pa : Option Addr) (pc : Nat) (S : List PT), w'.heap[rb]? = some (.cells #[.slice na L.length nc, .int .u32 dn, .int .i32 st, .int .u32 sm, .slice pa S.length pc] 54) ∧ Own w' B 61 2 pCells (.slice pa S.length pc) S ∧ S.Perm (pts pt L) ∧ S.Pairwise (fun x y => ltP y x = false) ∧ Keep (OneB rb) w w' := by
  have Hb := Lib.hid hb
  have HO := Lib.hid O
  have Hsz := Lib.hid hsz
  have HB := Lib.hid hB
  have c0 := blk_cell hb 0
  have cl := blk_lt hb
  simp at c0
  clear hb O hsz hB
  go_enter Tryd.func22, Tryd.ntmps22
  go_wp2_with fail
  go_loopw [10] (fun iv wr => ∃ (k : Nat) (pa : Option Addr) (pc : Nat) (S : List PT), k ≤ L.length ∧ iv = .int .i64 (k : Int) ∧ pts pt (L.take k) = S ∧ wr.heap[rb]? = some (.cells #[.slice na L.length nc, .int .u32 dn, .int .i32 st, .int .u32 sm, .slice pa S.length pc] 54) ∧ Own wr w.heap.size 61 2 pCells (.slice pa S.length pc) S ∧ Keep (OneB rb) w wr) (fun iv _ => L.length - (intOf iv).toNat)
  case atStart => exact ⟨0, none, 0, [], Nat.zero_le _, rfl, rfl, Hb.out, Own.nil _ _ _ _ _, Keep.refl _ _⟩
  case round =>
    clear c0
    obtain ⟨k, pa, pc, S, hk, rfl, hS, hbr, OS, hkp⟩ := hrel
    have HS := Lib.hid hS
    have Hbr := Lib.hid hbr
    have HOS := Lib.hid OS
    have Hk := Lib.hid hkp
    clear hS OS hkp
    by_cases hgo : k < L.length
    · obtain ⟨n, hn⟩ : ∃ n, L[k]? = some n := ⟨_, List.getElem?_eq_getElem hgo⟩
      obtain ⟨b, off, rfl, hbl, hc⟩ := (rds_own (HO.out.keep Hk.out (fun g hg => HO.out.ne Hb.out (by decide) g hg))).at hn
      have d1 : decide ((k : Int) < (L.length : Int)) = true := decide_eq_true (by omega)
      have hw1 : IntKind.i64.wrap ((k : Int) + 1) = (k : Int) + 1 := IntWalk.i64_in _ (by omega)
      have hns := Hsz.out n (List.mem_of_getElem? hn)
      have hS2 : S.length ≤ 1000 := by rw [← HS.out, pts_len, List.length_take]; omega
      have Hn := Lib.hid hn
      clear hn hbr
      go_wp2_with fail
      go_loopw [4] (fun iv wx => ∃ (j : Nat) (pa : Option Addr) (pc : Nat) (Q : List PT), j ≤ 16 ∧ iv = .int .i64 (j : Int) ∧ S ++ ptsK n j = Q ∧ wx.heap[rb]? = some (.cells #[.slice (some ⟨b, off, none⟩) L.length nc, .int .u32 dn, .int .i32 st, .int .u32 sm, .slice pa Q.length pc] 54) ∧ Own wx w.heap.size 61 2 pCells (.slice pa Q.length pc) Q ∧ Keep (OneB rb) w wx) (fun iv _ => 16 - (intOf iv).toNat)
      case atStart => exact ⟨0, pa, pc, S, Nat.zero_le _, rfl, by simp [ptsK], Hbr.out, HOS.out, Hk.out⟩
      case round =>
        clear Hbr HOS Hk hc pa pc
        obtain ⟨j, pa, pc, Q, hj, rfl, hQ, hbr, OS, hkp⟩ := hrel
        have HQ := Lib.hid hQ
        have Hbr := Lib.hid hbr
        have HOS := Lib.hid OS
        have Hk := Lib.hid hkp
        have hQ2 : Q.length ≤ 2000 := by rw [← hQ, List.length_append, ptsK, List.length_map, List.length_range]; omega
        clear hQ OS hkp hbr
        by_cases hgj : j < 16
        · have d2 : decide ((j : Int) < 16) = true := decide_eq_true (by omega)
          have hw2 : IntKind.i64.wrap ((j : Int) + 1) = (j : Int) + 1 := IntWalk.i64_in _ (by omega)
          have hz1 : n.size + 1 ≤ 9223372036854775807 := by omega
          have hz2 : n.size + 1 + (Lib.decDigits j).length ≤ 9223372036854775807 := by have := dig_len j hgj; omega
          have ha1 := fun u => str_add Tryd.prog n ⟨#[47]⟩ hz1 u
          have ha2 := fun u => str_add Tryd.prog (n ++ ⟨#[47]⟩) ⟨(Lib.decDigits j).toArray⟩ (by rw [ByteArray.size_append]; exact hz2) u
          obtain ⟨tj, htj⟩ : ∃ t, n ++ (⟨#[47]⟩ : BA) ++ (⟨(Lib.decDigits j).toArray⟩ : BA) = t := ⟨_, rfl⟩
          obtain ⟨hv, hhv⟩ : ∃ q, hash tj = q := ⟨_, rfl⟩
          have hpt : pt n j = hv := by unfold pt; rw [htj, hhv]
          have Hpt := Lib.hid hpt
          have Hhv := Lib.hid hhv
          clear hhv hpt
          go_wp2_with fail
          refine wp_region_pl (fun u => u.cell? ⟨rb, 4, none⟩ = some (.slice pa Q.length pc)) [17] (.rd 0 (.rd 1 (.rd 2 (.rd 3 (.rd 4 (.rd 5 (.rd 6 (.rd 7 (.rd 11 (.one 8 (.rd 9 (.one 10 (.rd 12 (.one 13 (.one 14 (.one 15 (.rd 16 (.one 17 .done)))))))))))))))))) (by kernel_rfl) (by kernel_rfl) (by kernel_rfl) (by kernel_rfl) (by intro c b d v u h; cases d <;> exact h) ?_
          have kd : Keep NoB wr wr.drew := (Keep.refl NoB wr).drew
          have Hbd := Lib.hid (blk_keep Hbr.out kd (fun h => h))
          have HOd := Lib.hid (HOS.out.keep kd (fun _ _ h => h))
          have Hkd := Lib.hid (Hk.out.trans kd.none)
          clear Hbr HOS Hk kd
          generalize wr.drew = wd at Hbd HOd Hkd ⊢
          have c4 := blk_cell Hbd.out 4
          simp at c4
          have HS1 := Lib.hid c4
          clear c4
          first
            | refine pl_get (i := 0) rfl rfl HS1.out rfl (fun u hu => by (try dsimp only at hu); go_simp; rfl) (by simp only [List.setIfInBounds_toArray, List.set_cons_succ, List.set_cons_zero]; rfl) ?_
            | refine pl_skip (i := 0) rfl rfl HS1.out rfl (by simp only [List.setIfInBounds_toArray, List.set_cons_succ, List.set_cons_zero]; rfl) ?_
          first
            | refine pl_get (i := 1) rfl rfl HS1.out rfl (fun u hu => by (try dsimp only at hu); go_simp; rfl) (by simp only [List.setIfInBounds_toArray, List.set_cons_succ, List.set_cons_zero]; rfl) ?_
            | refine pl_skip (i := 1) rfl rfl HS1.out rfl (by simp only [List.setIfInBounds_toArray, List.set_cons_succ, List.set_cons_zero]; rfl) ?_
          first
            | refine pl_get (i := 2) rfl rfl HS1.out rfl (fun u hu => by (try dsimp only at hu); go_simp; rfl) (by simp only [List.setIfInBounds_toArray, List.set_cons_succ, List.set_cons_zero]; rfl) ?_
            | refine pl_skip (i := 2) rfl rfl HS1.out rfl (by simp only [List.setIfInBounds_toArray, List.set_cons_succ, List.set_cons_zero]; rfl) ?_
          first
            | refine pl_get (i := 3) rfl rfl HS1.out rfl (fun u hu => by (try dsimp only at hu); go_simp; rfl) (by simp only [List.setIfInBounds_toArray, List.set_cons_succ, List.set_cons_zero]; rfl) ?_
            | refine pl_skip (i := 3) rfl rfl HS1.out rfl (by simp only [List.setIfInBounds_toArray, List.set_cons_succ, List.set_cons_zero]; rfl) ?_
          first
            | refine pl_get (i := 4) rfl rfl HS1.out rfl (fun u hu => by (try dsimp only at hu); go_simp; rfl) (by simp only [List.setIfInBounds_toArray, List.set_cons_succ, List.set_cons_zero]; rfl) ?_
            | refine pl_skip (i := 4) rfl rfl HS1.out rfl (by simp only [List.setIfInBounds_toArray, List.set_cons_succ, List.set_cons_zero]; rfl) ?_
          first
            | refine pl_get (i := 5) rfl rfl HS1.out rfl (fun u hu => by (try dsimp only at hu); go_simp; rfl) (by simp only [List.setIfInBounds_toArray, List.set_cons_succ, List.set_cons_zero]; rfl) ?_
            | refine pl_skip (i := 5) rfl rfl HS1.out rfl (by simp only [List.setIfInBounds_toArray, List.set_cons_succ, List.set_cons_zero]; rfl) ?_
          first
            | refine pl_get (i := 6) rfl rfl HS1.out rfl (fun u hu => by (try dsimp only at hu); go_simp; rfl) (by simp only [List.setIfInBounds_toArray, List.set_cons_succ, List.set_cons_zero]; rfl) ?_
            | refine pl_skip (i := 6) rfl rfl HS1.out rfl (by simp only [List.setIfInBounds_toArray, List.set_cons_succ, List.set_cons_zero]; rfl) ?_
          first
            | refine pl_get (i := 7) rfl rfl HS1.out rfl (fun u hu => by (try dsimp only at hu); go_simp; rfl) (by simp only [List.setIfInBounds_toArray, List.set_cons_succ, List.set_cons_zero]; rfl) ?_
            | refine pl_skip (i := 7) rfl rfl HS1.out rfl (by simp only [List.setIfInBounds_toArray, List.set_cons_succ, List.set_cons_zero]; rfl) ?_
          first
            | refine pl_get (i := 11) rfl rfl HS1.out rfl (fun u hu => by (try dsimp only at hu); go_simp; rfl) (by simp only [List.setIfInBounds_toArray, List.set_cons_succ, List.set_cons_zero]; rfl) ?_
            | refine pl_skip (i := 11) rfl rfl HS1.out rfl (by simp only [List.setIfInBounds_toArray, List.set_cons_succ, List.set_cons_zero]; rfl) ?_
          refine pl_one (i := 8) rfl ?_
          go_wp2_with ((go_at_call 33; refine (itoa_small j hgj _).mono ?_; rintro _ wz ⟨rfl, rfl⟩))
          refine pl_next (fun _ => HS1.out) ?_
          first
            | refine pl_get (i := 9) rfl rfl HS1.out rfl (fun u hu => by (try dsimp only at hu); go_simp; rfl) (by simp only [List.setIfInBounds_toArray, List.set_cons_succ, List.set_cons_zero]; rfl) ?_
            | refine pl_skip (i := 9) rfl rfl HS1.out rfl (by simp only [List.setIfInBounds_toArray, List.set_cons_succ, List.set_cons_zero]; rfl) ?_
          have htz : tj.size ≤ maxLen := by rw [← htj, ByteArray.size_append, ByteArray.size_append]; exact hz2
          refine pl_one (i := 10) rfl ?_
          go_wp2_with ((go_at_call 23; refine (hash_any tj _ htz hv Hhv.out).mono ?_; rintro _ wz ⟨rfl, rfl⟩))
          refine pl_next (fun _ => HS1.out) ?_
          first
            | refine pl_get (i := 12) rfl rfl HS1.out rfl (fun u hu => by (try dsimp only at hu); go_simp; rfl) (by simp only [List.setIfInBounds_toArray, List.set_cons_succ, List.set_cons_zero]; rfl) ?_
            | refine pl_skip (i := 12) rfl rfl HS1.out rfl (by simp only [List.setIfInBounds_toArray, List.set_cons_succ, List.set_cons_zero]; rfl) ?_
          clear ha1 ha2 htj htz hz1 hz2
          refine pl_one (i := 13) rfl ?_
          go_wp2_with (fail)
          have kx : Keep NoB wd (wd.alloc (.cells #[.int .u64 hv, .string n] 61)) := (Keep.refl NoB wd).alloc _
          have HS2 := Lib.hid (kx.some HS1.out (fun h => h))
          have ex := blk_new wd (.cells #[.int .u64 hv, .string n] 61)
          have Hbx := Lib.hid (blk_keep Hbd.out kx (fun h => h))
          have HOx := Lib.hid (HOd.out.keep kx (fun _ _ h => h))
          have Hkx := Lib.hid (Hkd.out.trans kx.none)
          clear kx HS1 Hbd HOd Hkd
          refine pl_next (fun _ => HS2.out) ?_
          generalize wd.alloc (.cells #[.int .u64 hv, .string n] 61) = wx at HS2 ex Hbx HOx Hkx ⊢
          generalize wd.heap.size = xb at ex ⊢
          obtain ⟨Q', hQ'⟩ : ∃ l, Q ++ [((hv, n) : PT)] = l := ⟨_, rfl⟩
          have HQ' := Lib.hid hQ'
          have hws : w.heap.size ≤ wx.heap.size := Hkx.out.size
          clear hQ'
          refine pl_one (i := 14) rfl ?_
          refine wpList_append_one (B := w.heap.size) rfl (.tmp 22) (.tmp 31) 52 rfl Tryd.underlying52 info61' (by kernel_rfl) (by decide) (by decide) rfl HOx.out pCells_len ((hv, n) : PT) rfl (c := #[.int .u64 hv, .string n]) (t' := 61) (f := (0, 0)) ex rfl (pCells_one _) (by omega) hws HQ'.out ?_
          intro a4 c4 w4 O4 k4
          have hne := HOx.out.ne Hbx.out (by decide)
          have b4 := blk_keep Hbx.out k4 (fun e => hne rb e rfl)
          have z4 := blk_cell b4 4
          have zf := blk_free b4 4
          have zl := blk_lt b4
          simp at z4
          have HS4 := Lib.hid z4
          have Hb4 := Lib.hid b4
          have HO4 := Lib.hid O4
          have Hk4 := Lib.hid (Hkx.out.trans' k4 (fun i hi e => by have := HOx.out.fresh i e; omega))
          clear O4 k4 b4 hne ex hws HS2 Hbx HOx Hkx z4
          have z4 := HS4.out
          refine pl_next (fun _ => HS4.out) ?_
          (try simp only [Act.put, List.getElem_toArray, List.getElem_cons_succ, List.getElem_cons_zero, List.setIfInBounds_toArray, List.set_cons_succ, List.set_cons_zero])
          refine pl_one (i := 15) rfl ?_
          go_wp2_with (fail)
          refine pl_next (fun _ => HS4.out) ?_
          first
            | refine pl_get (i := 16) rfl rfl HS4.out rfl (fun u hu => by (try dsimp only at hu); go_simp; rfl) (by simp only [List.setIfInBounds_toArray, List.set_cons_succ, List.set_cons_zero]; rfl) ?_
            | refine pl_skip (i := 16) rfl rfl HS4.out rfl (by simp only [List.setIfInBounds_toArray, List.set_cons_succ, List.set_cons_zero]; rfl) ?_
          refine pl_one (i := 17) rfl ?_
          go_wp2_with (fail)
          have b5 := blk_setCell (i := 4) Hb4.out (.slice a4 Q'.length c4)
          have K5 := (Keep.refl (OneB rb) w4).setCell (p := ⟨rb, 4, none⟩) (Or.inr rfl) (.slice a4 Q'.length c4)
          simp at b5
          generalize World.setCell _ _ _ = w5 at b5 K5 ⊢
          refine pl_next (fun h => by cases h) ?_
          refine pl_done ?_
          have Hb5 := Lib.hid b5
          have HO5 := Lib.hid (HO4.out.keep K5 (fun g hg e => HO4.out.ne Hb4.out (by decide) g hg e))
          have Hk5 := Lib.hid (Hk4.out.trans' K5 (fun i hi e => e))
          clear b5 K5 z4 zf zl HS4 Hb4 HO4 Hk4
          go_wp2_with fail
          go_roundw
          case rel => exact ⟨j + 1, a4, c4, Q', hgj, by go_num, by rw [ptsK_succ, ← List.append_assoc, HQ.out, Hpt.out, HQ'.out], Hb5.out, HO5.out, Hk5.out⟩
          case measure => simp [intOf]; omega
        · have d2 : decide ((j : Int) < 16) = false := decide_eq_false (by omega)
          have hj16 : j = 16 := by omega
          subst hj16
          go_wp2_with fail
          go_roundw
          case rel => exact ⟨k + 1, pa, pc, Q, hgo, by go_num, by rw [pts_take Hn.out, HS.out, HQ.out], Hbr.out, HOS.out, Hk.out⟩
          case measure => simp [intOf]; omega
    · have d1 : decide ((k : Int) < (L.length : Int)) = false := decide_eq_false (by omega)
      have hSL : pts pt L = S := by have := HS.out; rw [List.take_of_length_le (by omega)] at this; exact this
      have hS3 : S.length ≤ 1000 := by rw [← hSL, pts_len]; omega
      have HSL := Lib.hid hSL
      have c4 := blk_cell Hbr.out 4
      have c5 := blk_lt Hbr.out
      simp at c4
      clear hSL hbr
      go_wp2_with fail
      refine (sortP_any _ w.heap.size pa pc S HOS.out (by omega)).mono ?_
      rintro _ w2 ⟨rfl, M, hM1, hM2, O2, k2⟩
      have hb2 := blk_keep Hbr.out k2 (fun e => HOS.out.ne Hbr.out (by decide) rb e rfl)
      have hSM : S.length = M.length := hM1.length_eq
      rw [hSM] at hb2
      have Hb2 := Lib.hid hb2
      have HM := Lib.hid (show M.Perm (pts pt L) ∧ M.Pairwise (fun x y => ltP y x = false) from ⟨by rw [HSL.out]; exact hM1.symm, hM2⟩)
      have HO2 := Lib.hid (O2.mono HB.out)
      have HK2 := Lib.hid (Hk.out.trans' k2 (fun i hi e => by have := HOS.out.fresh i e; omega))
      clear hb2 O2 k2 hM1 hM2 hSM c4 c5 HOS
      go_wp2_with fail
      go_end0
      exact ⟨rfl, pa, pc, M, Hb2.out, HO2.out, HM.out.1, HM.out.2, HK2.out⟩
end Go.Proofs.YtopgepifakdpfaaDoor
