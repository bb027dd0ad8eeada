/- The reference's Set, where there is room. -/
import Derived.Test.YtgangbkompkidaaMarkerY
namespace Go.Proofs.Ytgangbkompkidaa
open Go Go.RowKit Go.Maps Go.Sort















set_option maxHeartbeats 8000000 in
theorem rset_mid_put (rb B : Nat) (a : Option Addr) (cap : Nat) (limit : Int) (N : List MK) (s : ByteArray) (sa sr : Int) (w : World) (T : RT w B rb a cap limit N) (hB : B ≤ w.heap.size) (hN : N.length ≤ 1000) (p : Nat) (y0 : ByteArray) (y1 y2 : Int) (hlt : ∀ i y, i < p → N[i]? = some y → mlt y (s, sa, sr)) (hp : N[p]? = some (y0, y1, y2)) (hl : mlt (s, sa, sr) (y0, y1, y2)) (hb : ¬ limit ≤ N.length) (N' : List MK) (hnew : N' = N.take p ++ (s, sa, sr) :: N.drop p) :
    Calls Try.prog 17 #[.pointer (some ⟨rb, 0, none⟩), .agg #[.string s, .int .i64 sa, .int .i64 sr]] w (RNPost rb B limit true N' w) := by
  have Hlt := Lib.hid hlt
  have Hy := Lib.hid hp
  have hpl : p < N.length := (List.getElem?_eq_some_iff.1 hp).1
  have Hnl := Lib.hid (show ¬ mlt (y0, y1, y2) (s, sa, sr) from fun e => mlt_irrefl _ (mlt_trans hl e))
  have Hdiff := Lib.hid (show (y0.toList == s.toList) = false ∨ (y1 == sa) = false ∨ (y2 == sr) = false from by
    rcases hl with h | ⟨_, h | ⟨_, h⟩⟩
    · exact Or.inl (tx_ne (fun e => by subst e; exact List.lt_irrefl _ h))
    · exact Or.inr (Or.inl (by simp only at h; simp; omega))
    · exact Or.inr (Or.inr (by simp only at h; simp; omega)))
  clear hlt hp hl
  have Hnew := Lib.hid hnew
  have hdb : decide (limit ≤ (N.length : Int)) = false := decide_eq_false hb
  clear hb hnew
  have HT := Lib.hid T
  clear T
  go_enter Try.func17, Try.ntmps17
  go_wp2_with fail
  have k0 : Keep NoB w (w.alloc (.cells #[.string s, .int .i64 sa, .int .i64 sr] 47)) := (Keep.refl NoB w).alloc _
  have b0 := blk_new w (.cells #[.string s, .int .i64 sa, .int .i64 sr] 47)
  generalize World.alloc w (.cells #[.string s, .int .i64 sa, .int .i64 sr] 47) = w0 at k0 b0 ⊢
  obtain ⟨xb, hxb⟩ : ∃ t, w.heap.size = t := ⟨_, rfl⟩
  rw [hxb] at b0 ⊢
  clear hxb
  go_loopw [5] (fun iv wr => ∃ k : Nat, k ≤ p ∧ iv = .int .i64 (k : Int) ∧ Keep NoB w wr ∧ wr.heap[xb]? = some (.cells #[.string s, .int .i64 sa, .int .i64 sr] 47 (0, 0))) (fun iv _ => N.length - (intOf iv).toNat)
  case atStart => exact ⟨0, Nat.zero_le _, rfl, k0, b0⟩
  case round =>
    clear k0 b0
    obtain ⟨k, hk, rfl, kr, br⟩ := hrel
    have TT := HT.out.keep0 kr
    have d0 := blk_cell TT.blk 0
    have d1 := blk_cell TT.blk 1
    have dl := blk_lt TT.blk
    have HTT := Lib.hid TT
    have x0 := blk_cell br 0
    have x1 := blk_cell br 1
    have x2 := blk_cell br 2
    have xl := blk_lt br
    have Hbr := Lib.hid br
    have Hkr := Lib.hid kr
    simp at d0 d1 x0 x1 x2
    clear TT br kr
    have hkl : k < N.length := by omega
    by_cases hkp : k < p
    · obtain ⟨y, hy⟩ : ∃ y, N[k]? = some y := ⟨_, List.getElem?_eq_getElem hkl⟩
      have hylt := Hlt.out k y hkp hy
      have Hyl := Lib.hid hylt
      obtain ⟨g, cg, hvv, hg1, hg2, hcx⟩ := HTT.out.own.cells mCells_len hy
      cases hvv
      have r0 := hcx 0 _ rfl
      have r1 := hcx 1 _ rfl
      have r2 := hcx 2 _ rfl
      simp only [Nat.add_zero] at r0
      obtain ⟨y0, y1, y2⟩ := y
      simp at r0 r1 r2
      clear hcx
      clear hy hylt
      go_wp2_with fail
      refine wp_region_pl (fun u => u.cell? ⟨rb, 0, none⟩ = some (.slice (some ⟨g, 0, none⟩) N.length cap) ∧ u.cell? ⟨g, k * 3, none⟩ = some (.string y0) ∧ u.cell? ⟨g, k * 3 + 1, none⟩ = some (.int .i64 y1) ∧ u.cell? ⟨g, k * 3 + 2, none⟩ = some (.int .i64 y2) ∧ u.cell? ⟨xb, 0, none⟩ = some (.string s) ∧ u.cell? ⟨xb, 1, none⟩ = some (.int .i64 sa) ∧ u.cell? ⟨xb, 2, none⟩ = some (.int .i64 sr)) [] (.rd 0 (.rd 1 (.rd 2 (.rd 3 (.rd 4 (.rd 5 (.rd 6 (.rd 7 (.rd 8 (.rd 9 (.rd 10 (.rd 11 (.rd 12 (.rd 13 (.rd 14 (.rd 15 (.one 16 (.rd 17 .done)))))))))))))))))) (by kernel_rfl) (by kernel_rfl) (by kernel_rfl) (by kernel_rfl) (by intro c b d v u h; cases d <;> exact h) ?_
      have kd0 : Keep NoB wr wr.drew := (Keep.refl NoB wr).drew
      have HS0 := Lib.hid (ks7 ⟨d0, r0, r1, r2, x0, x1, x2⟩ kd0)
      have Hkd := Lib.hid (Hkr.out.trans kd0)
      have Hbd := Lib.hid (blk_keep Hbr.out kd0 (fun h => h))
      clear kd0 d0 d1 r0 r1 r2 x0 x1 x2 HTT
      first
        | refine pl_get (i := 0) rfl rfl HS0.out rfl (fun u hu => by (try dsimp only at hu); go_simp; rfl) (by simp only [List.setIfInBounds_toArray, List.set_cons_succ, List.set_cons_zero]; rfl) ?_
        | refine pl_skip (i := 0) rfl rfl HS0.out rfl (by simp only [List.setIfInBounds_toArray, List.set_cons_succ, List.set_cons_zero]; rfl) ?_
      first
        | refine pl_get (i := 1) rfl rfl HS0.out rfl (fun u hu => by (try dsimp only at hu); go_simp; rfl) (by simp only [List.setIfInBounds_toArray, List.set_cons_succ, List.set_cons_zero]; rfl) ?_
        | refine pl_skip (i := 1) rfl rfl HS0.out rfl (by simp only [List.setIfInBounds_toArray, List.set_cons_succ, List.set_cons_zero]; rfl) ?_
      first
        | refine pl_get (i := 2) rfl rfl HS0.out rfl (fun u hu => by (try dsimp only at hu); go_simp; rfl) (by simp only [List.setIfInBounds_toArray, List.set_cons_succ, List.set_cons_zero]; rfl) ?_
        | refine pl_skip (i := 2) rfl rfl HS0.out rfl (by simp only [List.setIfInBounds_toArray, List.set_cons_succ, List.set_cons_zero]; rfl) ?_
      first
        | refine pl_get (i := 3) rfl rfl HS0.out rfl (fun u hu => by (try dsimp only at hu); go_simp; rfl) (by simp only [List.setIfInBounds_toArray, List.set_cons_succ, List.set_cons_zero]; rfl) ?_
        | refine pl_skip (i := 3) rfl rfl HS0.out rfl (by simp only [List.setIfInBounds_toArray, List.set_cons_succ, List.set_cons_zero]; rfl) ?_
      first
        | refine pl_get (i := 4) rfl rfl HS0.out rfl (fun u hu => by (try dsimp only at hu); go_simp; rfl) (by simp only [List.setIfInBounds_toArray, List.set_cons_succ, List.set_cons_zero]; rfl) ?_
        | refine pl_skip (i := 4) rfl rfl HS0.out rfl (by simp only [List.setIfInBounds_toArray, List.set_cons_succ, List.set_cons_zero]; rfl) ?_
      first
        | refine pl_get (i := 5) rfl rfl HS0.out rfl (fun u hu => by (try dsimp only at hu); go_simp; rfl) (by simp only [List.setIfInBounds_toArray, List.set_cons_succ, List.set_cons_zero]; rfl) ?_
        | refine pl_skip (i := 5) rfl rfl HS0.out rfl (by simp only [List.setIfInBounds_toArray, List.set_cons_succ, List.set_cons_zero]; rfl) ?_
      first
        | refine pl_get (i := 6) rfl rfl HS0.out rfl (fun u hu => by (try dsimp only at hu); go_simp; rfl) (by simp only [List.setIfInBounds_toArray, List.set_cons_succ, List.set_cons_zero]; rfl) ?_
        | refine pl_skip (i := 6) rfl rfl HS0.out rfl (by simp only [List.setIfInBounds_toArray, List.set_cons_succ, List.set_cons_zero]; rfl) ?_
      first
        | refine pl_get (i := 7) rfl rfl HS0.out rfl (fun u hu => by (try dsimp only at hu); go_simp; rfl) (by simp only [List.setIfInBounds_toArray, List.set_cons_succ, List.set_cons_zero]; rfl) ?_
        | refine pl_skip (i := 7) rfl rfl HS0.out rfl (by simp only [List.setIfInBounds_toArray, List.set_cons_succ, List.set_cons_zero]; rfl) ?_
      first
        | refine pl_get (i := 8) rfl rfl HS0.out rfl (fun u hu => by (try dsimp only at hu); go_simp; rfl) (by simp only [List.setIfInBounds_toArray, List.set_cons_succ, List.set_cons_zero]; rfl) ?_
        | refine pl_skip (i := 8) rfl rfl HS0.out rfl (by simp only [List.setIfInBounds_toArray, List.set_cons_succ, List.set_cons_zero]; rfl) ?_
      first
        | refine pl_get (i := 9) rfl rfl HS0.out rfl (fun u hu => by (try dsimp only at hu); go_simp; rfl) (by simp only [List.setIfInBounds_toArray, List.set_cons_succ, List.set_cons_zero]; rfl) ?_
        | refine pl_skip (i := 9) rfl rfl HS0.out rfl (by simp only [List.setIfInBounds_toArray, List.set_cons_succ, List.set_cons_zero]; rfl) ?_
      first
        | refine pl_get (i := 10) rfl rfl HS0.out rfl (fun u hu => by (try dsimp only at hu); go_simp; rfl) (by simp only [List.setIfInBounds_toArray, List.set_cons_succ, List.set_cons_zero]; rfl) ?_
        | refine pl_skip (i := 10) rfl rfl HS0.out rfl (by simp only [List.setIfInBounds_toArray, List.set_cons_succ, List.set_cons_zero]; rfl) ?_
      first
        | refine pl_get (i := 11) rfl rfl HS0.out rfl (fun u hu => by (try dsimp only at hu); go_simp; rfl) (by simp only [List.setIfInBounds_toArray, List.set_cons_succ, List.set_cons_zero]; rfl) ?_
        | refine pl_skip (i := 11) rfl rfl HS0.out rfl (by simp only [List.setIfInBounds_toArray, List.set_cons_succ, List.set_cons_zero]; rfl) ?_
      first
        | refine pl_get (i := 12) rfl rfl HS0.out rfl (fun u hu => by (try dsimp only at hu); go_simp; rfl) (by simp only [List.setIfInBounds_toArray, List.set_cons_succ, List.set_cons_zero]; rfl) ?_
        | refine pl_skip (i := 12) rfl rfl HS0.out rfl (by simp only [List.setIfInBounds_toArray, List.set_cons_succ, List.set_cons_zero]; rfl) ?_
      first
        | refine pl_get (i := 13) rfl rfl HS0.out rfl (fun u hu => by (try dsimp only at hu); go_simp; rfl) (by simp only [List.setIfInBounds_toArray, List.set_cons_succ, List.set_cons_zero]; rfl) ?_
        | refine pl_skip (i := 13) rfl rfl HS0.out rfl (by simp only [List.setIfInBounds_toArray, List.set_cons_succ, List.set_cons_zero]; rfl) ?_
      first
        | refine pl_get (i := 14) rfl rfl HS0.out rfl (fun u hu => by (try dsimp only at hu); go_simp; rfl) (by simp only [List.setIfInBounds_toArray, List.set_cons_succ, List.set_cons_zero]; rfl) ?_
        | refine pl_skip (i := 14) rfl rfl HS0.out rfl (by simp only [List.setIfInBounds_toArray, List.set_cons_succ, List.set_cons_zero]; rfl) ?_
      first
        | refine pl_get (i := 15) rfl rfl HS0.out rfl (fun u hu => by (try dsimp only at hu); go_simp; rfl) (by simp only [List.setIfInBounds_toArray, List.set_cons_succ, List.set_cons_zero]; rfl) ?_
        | refine pl_skip (i := 15) rfl rfl HS0.out rfl (by simp only [List.setIfInBounds_toArray, List.set_cons_succ, List.set_cons_zero]; rfl) ?_
      refine pl_one (i := 16) rfl ?_
      go_wp2_with ((go_at_call 30; refine (less_yes (y0, y1, y2) (s, sa, sr) Hyl.out _).mono ?_; rintro _ w3 ⟨rfl, k3⟩))
      have HS3 := Lib.hid (ks7 HS0.out k3)
      have Hk3 := Lib.hid (Hkd.out.trans k3)
      have Hb3 := Lib.hid (blk_keep Hbd.out k3 (fun h => h))
      clear k3
      refine pl_next (fun _ => HS3.out) ?_
      first
        | refine pl_get (i := 17) rfl rfl HS3.out rfl (fun u hu => by (try dsimp only at hu); go_simp; rfl) (by simp only [List.setIfInBounds_toArray, List.set_cons_succ, List.set_cons_zero]; rfl) ?_
        | refine pl_skip (i := 17) rfl rfl HS3.out rfl (by simp only [List.setIfInBounds_toArray, List.set_cons_succ, List.set_cons_zero]; rfl) ?_
      refine pl_done ?_
      go_wp2_with fail
      go_roundw
      case rel => exact ⟨k + 1, hkp, by go_num, Hk3.out, Hb3.out⟩
      case measure => simp [intOf]; omega
    · obtain rfl : k = p := by omega
      have hy := Hy.out
      obtain ⟨g, cg, hvv, hg1, hg2, hcx⟩ := HTT.out.own.cells mCells_len hy
      cases hvv
      have r0 := hcx 0 _ rfl
      have r1 := hcx 1 _ rfl
      have r2 := hcx 2 _ rfl
      simp only [Nat.add_zero] at r0
      simp at r0 r1 r2
      clear hcx
      clear hy
      have hkle : k ≤ N.length := by omega
      go_wp2_with fail
      refine wp_region_pl (fun u => u.cell? ⟨rb, 0, none⟩ = some (.slice (some ⟨g, 0, none⟩) N.length cap) ∧ u.cell? ⟨g, k * 3, none⟩ = some (.string y0) ∧ u.cell? ⟨g, k * 3 + 1, none⟩ = some (.int .i64 y1) ∧ u.cell? ⟨g, k * 3 + 2, none⟩ = some (.int .i64 y2) ∧ u.cell? ⟨xb, 0, none⟩ = some (.string s) ∧ u.cell? ⟨xb, 1, none⟩ = some (.int .i64 sa) ∧ u.cell? ⟨xb, 2, none⟩ = some (.int .i64 sr)) [] (.rd 0 (.rd 1 (.rd 2 (.rd 3 (.rd 4 (.rd 5 (.rd 6 (.rd 7 (.rd 8 (.rd 9 (.rd 10 (.rd 11 (.rd 12 (.rd 13 (.rd 14 (.rd 15 (.one 16 (.rd 17 .done)))))))))))))))))) (by kernel_rfl) (by kernel_rfl) (by kernel_rfl) (by kernel_rfl) (by intro c b d v u h; cases d <;> exact h) ?_
      have kd0 : Keep NoB wr wr.drew := (Keep.refl NoB wr).drew
      have HS0 := Lib.hid (ks7 ⟨d0, r0, r1, r2, x0, x1, x2⟩ kd0)
      have Hkd := Lib.hid (Hkr.out.trans kd0)
      have Hbd := Lib.hid (blk_keep Hbr.out kd0 (fun h => h))
      clear kd0 d0 d1 r0 r1 r2 x0 x1 x2 HTT
      first
        | refine pl_get (i := 0) rfl rfl HS0.out rfl (fun u hu => by (try dsimp only at hu); go_simp; rfl) (by simp only [List.setIfInBounds_toArray, List.set_cons_succ, List.set_cons_zero]; rfl) ?_
        | refine pl_skip (i := 0) rfl rfl HS0.out rfl (by simp only [List.setIfInBounds_toArray, List.set_cons_succ, List.set_cons_zero]; rfl) ?_
      first
        | refine pl_get (i := 1) rfl rfl HS0.out rfl (fun u hu => by (try dsimp only at hu); go_simp; rfl) (by simp only [List.setIfInBounds_toArray, List.set_cons_succ, List.set_cons_zero]; rfl) ?_
        | refine pl_skip (i := 1) rfl rfl HS0.out rfl (by simp only [List.setIfInBounds_toArray, List.set_cons_succ, List.set_cons_zero]; rfl) ?_
      first
        | refine pl_get (i := 2) rfl rfl HS0.out rfl (fun u hu => by (try dsimp only at hu); go_simp; rfl) (by simp only [List.setIfInBounds_toArray, List.set_cons_succ, List.set_cons_zero]; rfl) ?_
        | refine pl_skip (i := 2) rfl rfl HS0.out rfl (by simp only [List.setIfInBounds_toArray, List.set_cons_succ, List.set_cons_zero]; rfl) ?_
      first
        | refine pl_get (i := 3) rfl rfl HS0.out rfl (fun u hu => by (try dsimp only at hu); go_simp; rfl) (by simp only [List.setIfInBounds_toArray, List.set_cons_succ, List.set_cons_zero]; rfl) ?_
        | refine pl_skip (i := 3) rfl rfl HS0.out rfl (by simp only [List.setIfInBounds_toArray, List.set_cons_succ, List.set_cons_zero]; rfl) ?_
      first
        | refine pl_get (i := 4) rfl rfl HS0.out rfl (fun u hu => by (try dsimp only at hu); go_simp; rfl) (by simp only [List.setIfInBounds_toArray, List.set_cons_succ, List.set_cons_zero]; rfl) ?_
        | refine pl_skip (i := 4) rfl rfl HS0.out rfl (by simp only [List.setIfInBounds_toArray, List.set_cons_succ, List.set_cons_zero]; rfl) ?_
      first
        | refine pl_get (i := 5) rfl rfl HS0.out rfl (fun u hu => by (try dsimp only at hu); go_simp; rfl) (by simp only [List.setIfInBounds_toArray, List.set_cons_succ, List.set_cons_zero]; rfl) ?_
        | refine pl_skip (i := 5) rfl rfl HS0.out rfl (by simp only [List.setIfInBounds_toArray, List.set_cons_succ, List.set_cons_zero]; rfl) ?_
      first
        | refine pl_get (i := 6) rfl rfl HS0.out rfl (fun u hu => by (try dsimp only at hu); go_simp; rfl) (by simp only [List.setIfInBounds_toArray, List.set_cons_succ, List.set_cons_zero]; rfl) ?_
        | refine pl_skip (i := 6) rfl rfl HS0.out rfl (by simp only [List.setIfInBounds_toArray, List.set_cons_succ, List.set_cons_zero]; rfl) ?_
      first
        | refine pl_get (i := 7) rfl rfl HS0.out rfl (fun u hu => by (try dsimp only at hu); go_simp; rfl) (by simp only [List.setIfInBounds_toArray, List.set_cons_succ, List.set_cons_zero]; rfl) ?_
        | refine pl_skip (i := 7) rfl rfl HS0.out rfl (by simp only [List.setIfInBounds_toArray, List.set_cons_succ, List.set_cons_zero]; rfl) ?_
      first
        | refine pl_get (i := 8) rfl rfl HS0.out rfl (fun u hu => by (try dsimp only at hu); go_simp; rfl) (by simp only [List.setIfInBounds_toArray, List.set_cons_succ, List.set_cons_zero]; rfl) ?_
        | refine pl_skip (i := 8) rfl rfl HS0.out rfl (by simp only [List.setIfInBounds_toArray, List.set_cons_succ, List.set_cons_zero]; rfl) ?_
      first
        | refine pl_get (i := 9) rfl rfl HS0.out rfl (fun u hu => by (try dsimp only at hu); go_simp; rfl) (by simp only [List.setIfInBounds_toArray, List.set_cons_succ, List.set_cons_zero]; rfl) ?_
        | refine pl_skip (i := 9) rfl rfl HS0.out rfl (by simp only [List.setIfInBounds_toArray, List.set_cons_succ, List.set_cons_zero]; rfl) ?_
      first
        | refine pl_get (i := 10) rfl rfl HS0.out rfl (fun u hu => by (try dsimp only at hu); go_simp; rfl) (by simp only [List.setIfInBounds_toArray, List.set_cons_succ, List.set_cons_zero]; rfl) ?_
        | refine pl_skip (i := 10) rfl rfl HS0.out rfl (by simp only [List.setIfInBounds_toArray, List.set_cons_succ, List.set_cons_zero]; rfl) ?_
      first
        | refine pl_get (i := 11) rfl rfl HS0.out rfl (fun u hu => by (try dsimp only at hu); go_simp; rfl) (by simp only [List.setIfInBounds_toArray, List.set_cons_succ, List.set_cons_zero]; rfl) ?_
        | refine pl_skip (i := 11) rfl rfl HS0.out rfl (by simp only [List.setIfInBounds_toArray, List.set_cons_succ, List.set_cons_zero]; rfl) ?_
      first
        | refine pl_get (i := 12) rfl rfl HS0.out rfl (fun u hu => by (try dsimp only at hu); go_simp; rfl) (by simp only [List.setIfInBounds_toArray, List.set_cons_succ, List.set_cons_zero]; rfl) ?_
        | refine pl_skip (i := 12) rfl rfl HS0.out rfl (by simp only [List.setIfInBounds_toArray, List.set_cons_succ, List.set_cons_zero]; rfl) ?_
      first
        | refine pl_get (i := 13) rfl rfl HS0.out rfl (fun u hu => by (try dsimp only at hu); go_simp; rfl) (by simp only [List.setIfInBounds_toArray, List.set_cons_succ, List.set_cons_zero]; rfl) ?_
        | refine pl_skip (i := 13) rfl rfl HS0.out rfl (by simp only [List.setIfInBounds_toArray, List.set_cons_succ, List.set_cons_zero]; rfl) ?_
      first
        | refine pl_get (i := 14) rfl rfl HS0.out rfl (fun u hu => by (try dsimp only at hu); go_simp; rfl) (by simp only [List.setIfInBounds_toArray, List.set_cons_succ, List.set_cons_zero]; rfl) ?_
        | refine pl_skip (i := 14) rfl rfl HS0.out rfl (by simp only [List.setIfInBounds_toArray, List.set_cons_succ, List.set_cons_zero]; rfl) ?_
      first
        | refine pl_get (i := 15) rfl rfl HS0.out rfl (fun u hu => by (try dsimp only at hu); go_simp; rfl) (by simp only [List.setIfInBounds_toArray, List.set_cons_succ, List.set_cons_zero]; rfl) ?_
        | refine pl_skip (i := 15) rfl rfl HS0.out rfl (by simp only [List.setIfInBounds_toArray, List.set_cons_succ, List.set_cons_zero]; rfl) ?_
      refine pl_one (i := 16) rfl ?_
      go_wp2_with ((go_at_call 30; refine (less_no (y0, y1, y2) (s, sa, sr) Hnl.out _).mono ?_; rintro _ w3 ⟨rfl, k3⟩))
      have HS3 := Lib.hid (ks7 HS0.out k3)
      have Hk3 := Lib.hid (Hkd.out.trans k3)
      have Hb3 := Lib.hid (blk_keep Hbd.out k3 (fun h => h))
      clear k3
      refine pl_next (fun _ => HS3.out) ?_
      first
        | refine pl_get (i := 17) rfl rfl HS3.out rfl (fun u hu => by (try dsimp only at hu); go_simp; rfl) (by simp only [List.setIfInBounds_toArray, List.set_cons_succ, List.set_cons_zero]; rfl) ?_
        | refine pl_skip (i := 17) rfl rfl HS3.out rfl (by simp only [List.setIfInBounds_toArray, List.set_cons_succ, List.set_cons_zero]; rfl) ?_
      refine pl_done ?_
      go_wp2_with fail
      (try clear d0)
      (try clear d1)
      (try clear dl)
      (try clear x0)
      (try clear x1)
      (try clear x2)
      (try clear xl)
      (try clear r0)
      (try clear r1)
      (try clear r2)
      have TT := HT.out.keep0 Hk3.out
      have d0 := blk_cell TT.blk 0
      have d1 := blk_cell TT.blk 1
      have dl := blk_lt TT.blk
      have HTT := Lib.hid TT
      have x0 := blk_cell Hb3.out 0
      have x1 := blk_cell Hb3.out 1
      have x2 := blk_cell Hb3.out 2
      have xl := blk_lt Hb3.out
      simp at d0 d1 x0 x1 x2
      clear TT
      have hy := Hy.out
      obtain ⟨g, cg, hvv, hg1, hg2, hcx⟩ := HTT.out.own.cells mCells_len hy
      cases hvv
      have r0 := hcx 0 _ rfl
      have r1 := hcx 1 _ rfl
      have r2 := hcx 2 _ rfl
      simp only [Nat.add_zero] at r0
      simp at r0 r1 r2
      clear hcx
      clear hy
      rcases Hdiff.out with e0 | e0 | e0
      all_goals
        go_quiet (fail)
        have kz : Keep NoB w3 (w3.drewN nq) := (Keep.refl NoB w3).drewN nq
        have Hk4 := Lib.hid (Hk3.out.trans kz)
        have Hb4 := Lib.hid (blk_keep Hb3.out kz (fun h => h))
        generalize w3.drewN nq = wq at kz Hk4 Hb4 ⊢
        clear kz
        clear e0
        (try clear d0)
        (try clear d1)
        (try clear dl)
        (try clear x0)
        (try clear x1)
        (try clear x2)
        (try clear xl)
        (try clear r0)
        (try clear r1)
        (try clear r2)
        have TT := HT.out.keep0 Hk4.out
        have d0 := blk_cell TT.blk 0
        have d1 := blk_cell TT.blk 1
        have dl := blk_lt TT.blk
        have HTT := Lib.hid TT
        have x0 := blk_cell Hb4.out 0
        have x1 := blk_cell Hb4.out 1
        have x2 := blk_cell Hb4.out 2
        have xl := blk_lt Hb4.out
        simp at d0 d1 x0 x1 x2
        clear TT
        go_wp2_with fail
        go_quiet (fail)
        have kz : Keep NoB wq (wq.drewN nq) := (Keep.refl NoB wq).drewN nq
        have Hk5 := Lib.hid (Hk4.out.trans kz)
        have Hb5 := Lib.hid (blk_keep Hb4.out kz (fun h => h))
        generalize wq.drewN nq = wz at kz Hk5 Hb5 ⊢
        clear kz
        (try clear d0)
        (try clear d1)
        (try clear dl)
        (try clear x0)
        (try clear x1)
        (try clear x2)
        (try clear xl)
        (try clear r0)
        (try clear r1)
        (try clear r2)
        have TT := HT.out.keep0 Hk5.out
        have d0 := blk_cell TT.blk 0
        have d1 := blk_cell TT.blk 1
        have dl := blk_lt TT.blk
        have HTT := Lib.hid TT
        have x0 := blk_cell Hb5.out 0
        have x1 := blk_cell Hb5.out 1
        have x2 := blk_cell Hb5.out 2
        have xl := blk_lt Hb5.out
        simp at d0 d1 x0 x1 x2
        clear TT
        clear HTT
        have HTT := Lib.hid (HT.out.keep0 Hk5.out)
        have hsz := Hk5.out.size
        have hBz : B ≤ wz.heap.size := by omega
        have HO := Lib.hid HTT.out.own
        have Hblk := Lib.hid HTT.out.blk
        have Hbz := Lib.hid Hb5.out
        obtain ⟨M1, hM1⟩ : ∃ l, N.take k = l := ⟨_, rfl⟩
        obtain ⟨M2, hM2⟩ : ∃ l, N.drop k = l := ⟨_, rfl⟩
        obtain ⟨N1, hN1⟩ : ∃ l, M1 ++ [((s, sa, sr) : MK)] = l := ⟨_, rfl⟩
        obtain ⟨N2, hN2⟩ : ∃ l, N1 ++ M2 = l := ⟨_, rfl⟩
        have hM1l : M1.length = k := by rw [← hM1, List.length_take]; omega
        have hM2l : M2.length = N.length - k := by rw [← hM2, List.length_drop]
        have hN1l : N1.length = k + 1 := by rw [← hN1, List.length_append, hM1l]; rfl
        have hfin : N' = N2 := by rw [Hnew.out, hM1, hM2, ← hN2, ← hN1]; simp
        have Hfin := Lib.hid hfin
        have HN1 := Lib.hid hN1
        have HN2 := Lib.hid hN2
        have HM1 := Lib.hid hM1
        have HM2 := Lib.hid hM2
        have HM1l := Lib.hid hM1l
        have HM2l := Lib.hid hM2l
        have HN1l := Lib.hid hN1l
        have Hroom := Lib.hid HO.out.room
        clear hM1 hM2 hN1 hN2 hM1l hM2l hN1l hfin
        rcases HO.out.shape2 with ⟨hA, hB', hC⟩ | ⟨g', hA, hB', hC⟩
        all_goals try (exfalso; cases hA; done)
        all_goals cases hA
        all_goals
          by_cases hcap : cap = k
          all_goals try (exfalso; have h9 : N.length = 0 := (by rw [hC]; rfl); omega)
          all_goals try (exfalso; have h9 := Hroom.out.2.1; omega)
          all_goals have HC := Lib.hid hC
          all_goals clear hC
          all_goals
            have hsub1 : ∀ c, Sub wz mCells (.slice _ k c) M1 := fun c => by rw [← HM1.out]; exact Own.take (i := k) HO.out mCells_len hkle c
            have hnc := Hroom.out.2.1
            have hcm := Hroom.out.2.2
            unfold maxLen at hcm
            have Hsub1 := Lib.hid hsub1
            clear hsub1
            go_wp2_with (first
              | (at_builtin
                 (refine wpList_append_sub rfl (.tmp 55) (.tmp 61) 44 rfl Try.underlying44 info47' (by kernel_rfl) (by decide) (by decide) rfl (Own.empty wz (Nat.le_refl _) 47 3 mCells) mCells_len mCells_one rfl ((Hsub1.out _).keep ((Keep.refl NoB wz).alloc _)) (by rw [HM1l.out]; simp; omega) (by simp) (List.nil_append M1) ?_)
                 intro a1 q1 w1 O1 k1
                 have k11 : Keep NoB wz w1 := (Own.empty wz (Nat.le_refl _) 47 3 mCells).knob ((Keep.refl NoB wz).alloc _) k1
                 have s1 := k11.size
                 have b1 := blk_keep Hbz.out k11 (fun h => h)
                 have e0 := blk_cell b1 0
                 have e1 := blk_cell b1 1
                 have e2 := blk_cell b1 2
                 have el := blk_lt b1
                 simp at e0 e1 e2
                 clear k1 b1
                 skip)
              | (at_builtin
                 (refine wpList_append_one rfl (.tmp 63) (.tmp 65) 44 rfl Try.underlying44 info47' (by kernel_rfl) (by decide) (by decide) rfl (O1.alloc _) mCells_len (s, sa, sr) rfl (c := #[.string s, .int .i64 sa, .int .i64 sr]) (t' := 47) (f := (0, 0)) (blk_new w1 _) rfl (mCells_one _) (by rw [HM1l.out]; omega) (by simp; omega) HN1.out ?_)
                 intro a2 q2 w2 O2 k2
                 have k22 : Keep NoB wz w2 := (O1.alloc _).knob (k11.alloc _) k2
                 have s2 := k22.size
                 have b2 := blk_keep Hblk.out k22 (fun h => h)
                 have f0 := blk_cell b2 0
                 have fl := blk_lt b2
                 have Hb2 := Lib.hid b2
                 simp at f0
                 clear k2 b2
                 skip)
              | (at_builtin
                 (refine wpList_append_sub rfl (.tmp 68) (.tmp 74) 44 rfl Try.underlying44 info47' (by kernel_rfl) (by decide) (by decide) rfl O2 mCells_len mCells_one rfl (by first | exact Sub.nil2 (by have := HM2l.out; exact List.eq_nil_of_length_eq_zero (by omega)) (by omega) | (have h9 := (Own.drop HO.out mCells_len k (cap - k)).keep k22; rw [HM2.out] at h9; exact h9)) (by rw [HM2l.out, HN1l.out]; omega) (by omega) HN2.out ?_)
                 intro a3 q3 w3 O3 k3
                 have k33 : Keep NoB wz w3 := O2.knob k22 k3
                 have b3 := blk_keep Hblk.out k33 (fun h => h)
                 have y0 := blk_cell b3 0
                 have yl := blk_lt b3
                 have yf := blk_free b3 0
                 have Hb3 := Lib.hid b3
                 simp at y0
                 clear k3 b3))
            go_ret
            have hb9 := blk_setCell (i := 0) Hb3.out (.slice a3 N2.length q3)
            have k9 : Keep (OneB rb) w3 (w3.setCell ⟨rb, 0, none⟩ (.slice a3 N2.length q3)) := (Keep.refl (OneB rb) w3).setCell (p := ⟨rb, 0, none⟩) (Or.inr rfl) _
            have O9 := (O3.mono (by omega : B ≤ wz.heap.size)).keep k9 (fun g hg e => O3.ne Hb3.out (by decide) g hg e)
            simp at hb9
            rw [Hfin.out]
            exact ⟨rfl, ⟨a3, q3, ⟨hb9, O9⟩⟩, ((Hk5.out.trans k33).none).trans k9⟩

set_option maxHeartbeats 8000000 in
theorem rset_last_put (rb B : Nat) (a : Option Addr) (cap : Nat) (limit : Int) (N : List MK) (s : ByteArray) (sa sr : Int) (w : World) (T : RT w B rb a cap limit N) (hB : B ≤ w.heap.size) (hN : N.length ≤ 1000) (p : Nat) (hpe : p = N.length) (hlt : ∀ i y, i < p → N[i]? = some y → mlt y (s, sa, sr)) (hb : ¬ limit ≤ N.length) (N' : List MK) (hnew : N' = N.take p ++ (s, sa, sr) :: N.drop p) :
    Calls Try.prog 17 #[.pointer (some ⟨rb, 0, none⟩), .agg #[.string s, .int .i64 sa, .int .i64 sr]] w (RNPost rb B limit true N' w) := by
  have Hlt := Lib.hid hlt
  have Hnew := Lib.hid hnew
  have hdb : decide (limit ≤ (N.length : Int)) = false := decide_eq_false hb
  have hpe1 : p ≤ N.length := by omega
  have hpe2 : N.length ≤ p := by omega
  clear hb hlt hnew hpe
  have HT := Lib.hid T
  clear T
  go_enter Try.func17, Try.ntmps17
  go_wp2_with fail
  have k0 : Keep NoB w (w.alloc (.cells #[.string s, .int .i64 sa, .int .i64 sr] 47)) := (Keep.refl NoB w).alloc _
  have b0 := blk_new w (.cells #[.string s, .int .i64 sa, .int .i64 sr] 47)
  generalize World.alloc w (.cells #[.string s, .int .i64 sa, .int .i64 sr] 47) = w0 at k0 b0 ⊢
  obtain ⟨xb, hxb⟩ : ∃ t, w.heap.size = t := ⟨_, rfl⟩
  rw [hxb] at b0 ⊢
  clear hxb
  go_loopw [5] (fun iv wr => ∃ k : Nat, k ≤ p ∧ iv = .int .i64 (k : Int) ∧ Keep NoB w wr ∧ wr.heap[xb]? = some (.cells #[.string s, .int .i64 sa, .int .i64 sr] 47 (0, 0))) (fun iv _ => N.length - (intOf iv).toNat)
  case atStart => exact ⟨0, Nat.zero_le _, rfl, k0, b0⟩
  case round =>
    clear k0 b0
    obtain ⟨k, hk, rfl, kr, br⟩ := hrel
    have TT := HT.out.keep0 kr
    have d0 := blk_cell TT.blk 0
    have d1 := blk_cell TT.blk 1
    have dl := blk_lt TT.blk
    have HTT := Lib.hid TT
    have x0 := blk_cell br 0
    have x1 := blk_cell br 1
    have x2 := blk_cell br 2
    have xl := blk_lt br
    have Hbr := Lib.hid br
    have Hkr := Lib.hid kr
    simp at d0 d1 x0 x1 x2
    clear TT br kr
    by_cases hkp : k < p
    · have hkl : k < N.length := by omega
      obtain ⟨y, hy⟩ : ∃ y, N[k]? = some y := ⟨_, List.getElem?_eq_getElem hkl⟩
      have hylt := Hlt.out k y hkp hy
      have Hyl := Lib.hid hylt
      obtain ⟨g, cg, hvv, hg1, hg2, hcx⟩ := HTT.out.own.cells mCells_len hy
      cases hvv
      have r0 := hcx 0 _ rfl
      have r1 := hcx 1 _ rfl
      have r2 := hcx 2 _ rfl
      simp only [Nat.add_zero] at r0
      obtain ⟨y0, y1, y2⟩ := y
      simp at r0 r1 r2
      clear hcx
      clear hy hylt
      go_wp2_with fail
      refine wp_region_pl (fun u => u.cell? ⟨rb, 0, none⟩ = some (.slice (some ⟨g, 0, none⟩) N.length cap) ∧ u.cell? ⟨g, k * 3, none⟩ = some (.string y0) ∧ u.cell? ⟨g, k * 3 + 1, none⟩ = some (.int .i64 y1) ∧ u.cell? ⟨g, k * 3 + 2, none⟩ = some (.int .i64 y2) ∧ u.cell? ⟨xb, 0, none⟩ = some (.string s) ∧ u.cell? ⟨xb, 1, none⟩ = some (.int .i64 sa) ∧ u.cell? ⟨xb, 2, none⟩ = some (.int .i64 sr)) [] (.rd 0 (.rd 1 (.rd 2 (.rd 3 (.rd 4 (.rd 5 (.rd 6 (.rd 7 (.rd 8 (.rd 9 (.rd 10 (.rd 11 (.rd 12 (.rd 13 (.rd 14 (.rd 15 (.one 16 (.rd 17 .done)))))))))))))))))) (by kernel_rfl) (by kernel_rfl) (by kernel_rfl) (by kernel_rfl) (by intro c b d v u h; cases d <;> exact h) ?_
      have kd0 : Keep NoB wr wr.drew := (Keep.refl NoB wr).drew
      have HS0 := Lib.hid (ks7 ⟨d0, r0, r1, r2, x0, x1, x2⟩ kd0)
      have Hkd := Lib.hid (Hkr.out.trans kd0)
      have Hbd := Lib.hid (blk_keep Hbr.out kd0 (fun h => h))
      clear kd0 d0 d1 r0 r1 r2 x0 x1 x2 HTT
      first
        | refine pl_get (i := 0) rfl rfl HS0.out rfl (fun u hu => by (try dsimp only at hu); go_simp; rfl) (by simp only [List.setIfInBounds_toArray, List.set_cons_succ, List.set_cons_zero]; rfl) ?_
        | refine pl_skip (i := 0) rfl rfl HS0.out rfl (by simp only [List.setIfInBounds_toArray, List.set_cons_succ, List.set_cons_zero]; rfl) ?_
      first
        | refine pl_get (i := 1) rfl rfl HS0.out rfl (fun u hu => by (try dsimp only at hu); go_simp; rfl) (by simp only [List.setIfInBounds_toArray, List.set_cons_succ, List.set_cons_zero]; rfl) ?_
        | refine pl_skip (i := 1) rfl rfl HS0.out rfl (by simp only [List.setIfInBounds_toArray, List.set_cons_succ, List.set_cons_zero]; rfl) ?_
      first
        | refine pl_get (i := 2) rfl rfl HS0.out rfl (fun u hu => by (try dsimp only at hu); go_simp; rfl) (by simp only [List.setIfInBounds_toArray, List.set_cons_succ, List.set_cons_zero]; rfl) ?_
        | refine pl_skip (i := 2) rfl rfl HS0.out rfl (by simp only [List.setIfInBounds_toArray, List.set_cons_succ, List.set_cons_zero]; rfl) ?_
      first
        | refine pl_get (i := 3) rfl rfl HS0.out rfl (fun u hu => by (try dsimp only at hu); go_simp; rfl) (by simp only [List.setIfInBounds_toArray, List.set_cons_succ, List.set_cons_zero]; rfl) ?_
        | refine pl_skip (i := 3) rfl rfl HS0.out rfl (by simp only [List.setIfInBounds_toArray, List.set_cons_succ, List.set_cons_zero]; rfl) ?_
      first
        | refine pl_get (i := 4) rfl rfl HS0.out rfl (fun u hu => by (try dsimp only at hu); go_simp; rfl) (by simp only [List.setIfInBounds_toArray, List.set_cons_succ, List.set_cons_zero]; rfl) ?_
        | refine pl_skip (i := 4) rfl rfl HS0.out rfl (by simp only [List.setIfInBounds_toArray, List.set_cons_succ, List.set_cons_zero]; rfl) ?_
      first
        | refine pl_get (i := 5) rfl rfl HS0.out rfl (fun u hu => by (try dsimp only at hu); go_simp; rfl) (by simp only [List.setIfInBounds_toArray, List.set_cons_succ, List.set_cons_zero]; rfl) ?_
        | refine pl_skip (i := 5) rfl rfl HS0.out rfl (by simp only [List.setIfInBounds_toArray, List.set_cons_succ, List.set_cons_zero]; rfl) ?_
      first
        | refine pl_get (i := 6) rfl rfl HS0.out rfl (fun u hu => by (try dsimp only at hu); go_simp; rfl) (by simp only [List.setIfInBounds_toArray, List.set_cons_succ, List.set_cons_zero]; rfl) ?_
        | refine pl_skip (i := 6) rfl rfl HS0.out rfl (by simp only [List.setIfInBounds_toArray, List.set_cons_succ, List.set_cons_zero]; rfl) ?_
      first
        | refine pl_get (i := 7) rfl rfl HS0.out rfl (fun u hu => by (try dsimp only at hu); go_simp; rfl) (by simp only [List.setIfInBounds_toArray, List.set_cons_succ, List.set_cons_zero]; rfl) ?_
        | refine pl_skip (i := 7) rfl rfl HS0.out rfl (by simp only [List.setIfInBounds_toArray, List.set_cons_succ, List.set_cons_zero]; rfl) ?_
      first
        | refine pl_get (i := 8) rfl rfl HS0.out rfl (fun u hu => by (try dsimp only at hu); go_simp; rfl) (by simp only [List.setIfInBounds_toArray, List.set_cons_succ, List.set_cons_zero]; rfl) ?_
        | refine pl_skip (i := 8) rfl rfl HS0.out rfl (by simp only [List.setIfInBounds_toArray, List.set_cons_succ, List.set_cons_zero]; rfl) ?_
      first
        | refine pl_get (i := 9) rfl rfl HS0.out rfl (fun u hu => by (try dsimp only at hu); go_simp; rfl) (by simp only [List.setIfInBounds_toArray, List.set_cons_succ, List.set_cons_zero]; rfl) ?_
        | refine pl_skip (i := 9) rfl rfl HS0.out rfl (by simp only [List.setIfInBounds_toArray, List.set_cons_succ, List.set_cons_zero]; rfl) ?_
      first
        | refine pl_get (i := 10) rfl rfl HS0.out rfl (fun u hu => by (try dsimp only at hu); go_simp; rfl) (by simp only [List.setIfInBounds_toArray, List.set_cons_succ, List.set_cons_zero]; rfl) ?_
        | refine pl_skip (i := 10) rfl rfl HS0.out rfl (by simp only [List.setIfInBounds_toArray, List.set_cons_succ, List.set_cons_zero]; rfl) ?_
      first
        | refine pl_get (i := 11) rfl rfl HS0.out rfl (fun u hu => by (try dsimp only at hu); go_simp; rfl) (by simp only [List.setIfInBounds_toArray, List.set_cons_succ, List.set_cons_zero]; rfl) ?_
        | refine pl_skip (i := 11) rfl rfl HS0.out rfl (by simp only [List.setIfInBounds_toArray, List.set_cons_succ, List.set_cons_zero]; rfl) ?_
      first
        | refine pl_get (i := 12) rfl rfl HS0.out rfl (fun u hu => by (try dsimp only at hu); go_simp; rfl) (by simp only [List.setIfInBounds_toArray, List.set_cons_succ, List.set_cons_zero]; rfl) ?_
        | refine pl_skip (i := 12) rfl rfl HS0.out rfl (by simp only [List.setIfInBounds_toArray, List.set_cons_succ, List.set_cons_zero]; rfl) ?_
      first
        | refine pl_get (i := 13) rfl rfl HS0.out rfl (fun u hu => by (try dsimp only at hu); go_simp; rfl) (by simp only [List.setIfInBounds_toArray, List.set_cons_succ, List.set_cons_zero]; rfl) ?_
        | refine pl_skip (i := 13) rfl rfl HS0.out rfl (by simp only [List.setIfInBounds_toArray, List.set_cons_succ, List.set_cons_zero]; rfl) ?_
      first
        | refine pl_get (i := 14) rfl rfl HS0.out rfl (fun u hu => by (try dsimp only at hu); go_simp; rfl) (by simp only [List.setIfInBounds_toArray, List.set_cons_succ, List.set_cons_zero]; rfl) ?_
        | refine pl_skip (i := 14) rfl rfl HS0.out rfl (by simp only [List.setIfInBounds_toArray, List.set_cons_succ, List.set_cons_zero]; rfl) ?_
      first
        | refine pl_get (i := 15) rfl rfl HS0.out rfl (fun u hu => by (try dsimp only at hu); go_simp; rfl) (by simp only [List.setIfInBounds_toArray, List.set_cons_succ, List.set_cons_zero]; rfl) ?_
        | refine pl_skip (i := 15) rfl rfl HS0.out rfl (by simp only [List.setIfInBounds_toArray, List.set_cons_succ, List.set_cons_zero]; rfl) ?_
      refine pl_one (i := 16) rfl ?_
      go_wp2_with ((go_at_call 30; refine (less_yes (y0, y1, y2) (s, sa, sr) Hyl.out _).mono ?_; rintro _ w3 ⟨rfl, k3⟩))
      have HS3 := Lib.hid (ks7 HS0.out k3)
      have Hk3 := Lib.hid (Hkd.out.trans k3)
      have Hb3 := Lib.hid (blk_keep Hbd.out k3 (fun h => h))
      clear k3
      refine pl_next (fun _ => HS3.out) ?_
      first
        | refine pl_get (i := 17) rfl rfl HS3.out rfl (fun u hu => by (try dsimp only at hu); go_simp; rfl) (by simp only [List.setIfInBounds_toArray, List.set_cons_succ, List.set_cons_zero]; rfl) ?_
        | refine pl_skip (i := 17) rfl rfl HS3.out rfl (by simp only [List.setIfInBounds_toArray, List.set_cons_succ, List.set_cons_zero]; rfl) ?_
      refine pl_done ?_
      go_wp2_with fail
      go_roundw
      case rel => exact ⟨k + 1, hkp, by go_num, Hk3.out, Hb3.out⟩
      case measure => simp [intOf]; omega
    · obtain rfl : k = p := by omega
      have hdn : ¬ k < N.length := by omega
      have hdk : decide ((k : Int) < (N.length : Int)) = false := decide_eq_false (by omega)
      have hkle : k ≤ N.length := by omega
      go_wp2_with fail
      go_quiet (fail)
      have kz : Keep NoB wr (wr.drewN nq) := (Keep.refl NoB wr).drewN nq
      have Hk3 := Lib.hid (Hkr.out.trans kz)
      have Hb3 := Lib.hid (blk_keep Hbr.out kz (fun h => h))
      generalize wr.drewN nq = w3 at kz Hk3 Hb3 ⊢
      clear kz
      (try clear d0)
      (try clear d1)
      (try clear dl)
      (try clear x0)
      (try clear x1)
      (try clear x2)
      (try clear xl)
      (try clear r0)
      (try clear r1)
      (try clear r2)
      have TT := HT.out.keep0 Hk3.out
      have d0 := blk_cell TT.blk 0
      have d1 := blk_cell TT.blk 1
      have dl := blk_lt TT.blk
      have HTT := Lib.hid TT
      have x0 := blk_cell Hb3.out 0
      have x1 := blk_cell Hb3.out 1
      have x2 := blk_cell Hb3.out 2
      have xl := blk_lt Hb3.out
      simp at d0 d1 x0 x1 x2
      clear TT
      go_wp2_with fail
      go_quiet (fail)
      have kz : Keep NoB w3 (w3.drewN nq) := (Keep.refl NoB w3).drewN nq
      have Hk4 := Lib.hid (Hk3.out.trans kz)
      have Hb4 := Lib.hid (blk_keep Hb3.out kz (fun h => h))
      generalize w3.drewN nq = wq at kz Hk4 Hb4 ⊢
      clear kz
      (try clear d0)
      (try clear d1)
      (try clear dl)
      (try clear x0)
      (try clear x1)
      (try clear x2)
      (try clear xl)
      (try clear r0)
      (try clear r1)
      (try clear r2)
      have TT := HT.out.keep0 Hk4.out
      have d0 := blk_cell TT.blk 0
      have d1 := blk_cell TT.blk 1
      have dl := blk_lt TT.blk
      have HTT := Lib.hid TT
      have x0 := blk_cell Hb4.out 0
      have x1 := blk_cell Hb4.out 1
      have x2 := blk_cell Hb4.out 2
      have xl := blk_lt Hb4.out
      simp at d0 d1 x0 x1 x2
      clear TT
      go_wp2_with fail
      go_quiet (fail)
      have kz : Keep NoB wq (wq.drewN nq) := (Keep.refl NoB wq).drewN nq
      have Hk5 := Lib.hid (Hk4.out.trans kz)
      have Hb5 := Lib.hid (blk_keep Hb4.out kz (fun h => h))
      generalize wq.drewN nq = wz at kz Hk5 Hb5 ⊢
      clear kz
      (try clear d0)
      (try clear d1)
      (try clear dl)
      (try clear x0)
      (try clear x1)
      (try clear x2)
      (try clear xl)
      (try clear r0)
      (try clear r1)
      (try clear r2)
      have TT := HT.out.keep0 Hk5.out
      have d0 := blk_cell TT.blk 0
      have d1 := blk_cell TT.blk 1
      have dl := blk_lt TT.blk
      have HTT := Lib.hid TT
      have x0 := blk_cell Hb5.out 0
      have x1 := blk_cell Hb5.out 1
      have x2 := blk_cell Hb5.out 2
      have xl := blk_lt Hb5.out
      simp at d0 d1 x0 x1 x2
      clear TT
      clear HTT
      have HTT := Lib.hid (HT.out.keep0 Hk5.out)
      have hsz := Hk5.out.size
      have hBz : B ≤ wz.heap.size := by omega
      have HO := Lib.hid HTT.out.own
      have Hblk := Lib.hid HTT.out.blk
      have Hbz := Lib.hid Hb5.out
      obtain ⟨M1, hM1⟩ : ∃ l, N.take k = l := ⟨_, rfl⟩
      obtain ⟨M2, hM2⟩ : ∃ l, N.drop k = l := ⟨_, rfl⟩
      obtain ⟨N1, hN1⟩ : ∃ l, M1 ++ [((s, sa, sr) : MK)] = l := ⟨_, rfl⟩
      obtain ⟨N2, hN2⟩ : ∃ l, N1 ++ M2 = l := ⟨_, rfl⟩
      have hM1l : M1.length = k := by rw [← hM1, List.length_take]; omega
      have hM2l : M2.length = N.length - k := by rw [← hM2, List.length_drop]
      have hN1l : N1.length = k + 1 := by rw [← hN1, List.length_append, hM1l]; rfl
      have hfin : N' = N2 := by rw [Hnew.out, hM1, hM2, ← hN2, ← hN1]; simp
      have Hfin := Lib.hid hfin
      have HN1 := Lib.hid hN1
      have HN2 := Lib.hid hN2
      have HM1 := Lib.hid hM1
      have HM2 := Lib.hid hM2
      have HM1l := Lib.hid hM1l
      have HM2l := Lib.hid hM2l
      have HN1l := Lib.hid hN1l
      have Hroom := Lib.hid HO.out.room
      clear hM1 hM2 hN1 hN2 hM1l hM2l hN1l hfin
      rcases HO.out.shape2 with ⟨hA, hB', hC⟩ | ⟨g', hA, hB', hC⟩
      all_goals try (exfalso; cases hA; done)
      all_goals cases hA
      all_goals
        by_cases hcap : cap = k
        all_goals try (exfalso; have h9 : N.length = 0 := (by rw [hC]; rfl); omega)
        all_goals try (exfalso; have h9 := Hroom.out.2.1; omega)
        all_goals have HC := Lib.hid hC
        all_goals clear hC
        all_goals
          have hsub1 : ∀ c, Sub wz mCells (.slice _ k c) M1 := fun c => by rw [← HM1.out]; exact Own.take (i := k) HO.out mCells_len hkle c
          have hnc := Hroom.out.2.1
          have hcm := Hroom.out.2.2
          unfold maxLen at hcm
          have Hsub1 := Lib.hid hsub1
          clear hsub1
          go_wp2_with (first
            | (at_builtin
               (refine wpList_append_sub rfl (.tmp 55) (.tmp 61) 44 rfl Try.underlying44 info47' (by kernel_rfl) (by decide) (by decide) rfl (Own.empty wz (Nat.le_refl _) 47 3 mCells) mCells_len mCells_one rfl ((Hsub1.out _).keep ((Keep.refl NoB wz).alloc _)) (by rw [HM1l.out]; simp; omega) (by simp) (List.nil_append M1) ?_)
               intro a1 q1 w1 O1 k1
               have k11 : Keep NoB wz w1 := (Own.empty wz (Nat.le_refl _) 47 3 mCells).knob ((Keep.refl NoB wz).alloc _) k1
               have s1 := k11.size
               have b1 := blk_keep Hbz.out k11 (fun h => h)
               have e0 := blk_cell b1 0
               have e1 := blk_cell b1 1
               have e2 := blk_cell b1 2
               have el := blk_lt b1
               simp at e0 e1 e2
               clear k1 b1
               skip)
            | (at_builtin
               (refine wpList_append_one rfl (.tmp 63) (.tmp 65) 44 rfl Try.underlying44 info47' (by kernel_rfl) (by decide) (by decide) rfl (O1.alloc _) mCells_len (s, sa, sr) rfl (c := #[.string s, .int .i64 sa, .int .i64 sr]) (t' := 47) (f := (0, 0)) (blk_new w1 _) rfl (mCells_one _) (by rw [HM1l.out]; omega) (by simp; omega) HN1.out ?_)
               intro a2 q2 w2 O2 k2
               have k22 : Keep NoB wz w2 := (O1.alloc _).knob (k11.alloc _) k2
               have s2 := k22.size
               have b2 := blk_keep Hblk.out k22 (fun h => h)
               have f0 := blk_cell b2 0
               have fl := blk_lt b2
               have Hb2 := Lib.hid b2
               simp at f0
               clear k2 b2
               skip)
            | (at_builtin
               (refine wpList_append_sub rfl (.tmp 68) (.tmp 74) 44 rfl Try.underlying44 info47' (by kernel_rfl) (by decide) (by decide) rfl O2 mCells_len mCells_one rfl (by first | exact Sub.nil2 (by have := HM2l.out; exact List.eq_nil_of_length_eq_zero (by omega)) (by omega) | (have h9 := (Own.drop HO.out mCells_len k (cap - k)).keep k22; rw [HM2.out] at h9; exact h9)) (by rw [HM2l.out, HN1l.out]; omega) (by omega) HN2.out ?_)
               intro a3 q3 w3 O3 k3
               have k33 : Keep NoB wz w3 := O2.knob k22 k3
               have b3 := blk_keep Hblk.out k33 (fun h => h)
               have y0 := blk_cell b3 0
               have yl := blk_lt b3
               have yf := blk_free b3 0
               have Hb3 := Lib.hid b3
               simp at y0
               clear k3 b3))
          go_ret
          have hb9 := blk_setCell (i := 0) Hb3.out (.slice a3 N2.length q3)
          have k9 : Keep (OneB rb) w3 (w3.setCell ⟨rb, 0, none⟩ (.slice a3 N2.length q3)) := (Keep.refl (OneB rb) w3).setCell (p := ⟨rb, 0, none⟩) (Or.inr rfl) _
          have O9 := (O3.mono (by omega : B ≤ wz.heap.size)).keep k9 (fun g hg e => O3.ne Hb3.out (by decide) g hg e)
          simp at hb9
          rw [Hfin.out]
          exact ⟨rfl, ⟨a3, q3, ⟨hb9, O9⟩⟩, ((Hk5.out.trans k33).none).trans k9⟩

theorem rset_any (rb B : Nat) (a : Option Addr) (cap : Nat) (limit : Int) (N : List MK) (x : MK) (w : World) (T : RT w B rb a cap limit N) (hB : B ≤ w.heap.size) (hN : N.length ≤ 1000) (hr : RiseM N) (v : Bool) (hv : decide (x ∈ N ∨ (N.length : Int) < limit) = v) (N' : List MK) (hN' : msetM limit x N = N') :
    Calls Try.prog 17 #[.pointer (some ⟨rb, 0, none⟩), .agg (mCells x).toArray] w (RNPost rb B limit v N' w) := by
  subst hv hN'
  obtain ⟨s, sa, sr⟩ := x
  obtain ⟨p, hp⟩ := place_ex (s, sa, sr) N
  show Calls Try.prog 17 #[.pointer (some ⟨rb, 0, none⟩), .agg #[.string s, .int .i64 sa, .int .i64 sr]] w _
  cases hp with
  | same h hy =>
    have hm : (s, sa, sr) ∈ N := List.mem_of_getElem? hy
    rw [decide_eq_true (Or.inl hm)]
    unfold msetM
    rw [if_pos (Or.inl hm), mput_is h hy]
    exact rset_same rb B a cap limit N s sa sr w T hN p h hy
  | @mid k y h hy hl =>
    have hm : (s, sa, sr) ∉ N := not_in_mid hr h hy hl
    obtain ⟨y0, y1, y2⟩ := y
    by_cases hb : (limit : Int) ≤ N.length
    · have hc : ¬ ((s, sa, sr) ∈ N ∨ (N.length : Int) < limit) := fun e => e.elim hm (fun e => by omega)
      rw [decide_eq_false hc]
      unfold msetM
      rw [if_neg hc]
      exact rset_mid_busy rb B a cap limit N s sa sr w T hN p y0 y1 y2 h hy hl hb
    · have hc : ((s, sa, sr) ∈ N ∨ (N.length : Int) < limit) := Or.inr (by omega)
      rw [decide_eq_true hc]
      unfold msetM
      rw [if_pos hc]
      exact rset_mid_put rb B a cap limit N s sa sr w T hB hN p y0 y1 y2 h hy hl hb _ (mput_in h hy hl)
  | last h =>
    have hm : (s, sa, sr) ∉ N := not_in_end h
    by_cases hb : (limit : Int) ≤ N.length
    · have hc : ¬ ((s, sa, sr) ∈ N ∨ (N.length : Int) < limit) := fun e => e.elim hm (fun e => by omega)
      rw [decide_eq_false hc]
      unfold msetM
      rw [if_neg hc]
      exact rset_last_busy rb B a cap limit N s sa sr w T hN _ rfl h hb
    · have hc : ((s, sa, sr) ∈ N ∨ (N.length : Int) < limit) := Or.inr (by omega)
      rw [decide_eq_true hc]
      unfold msetM
      rw [if_pos hc]
      exact rset_last_put rb B a cap limit N s sa sr w T hB hN _ rfl h hb _ (by rw [mput_end h]; simp)
end Go.Proofs.Ytgangbkompkidaa
