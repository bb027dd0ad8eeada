/- The reference's Set. -/
import Derived.Test.YtgangbkompkidaaMarkerX
namespace Go.Proofs.Ytgangbkompkidaa
open Go Go.RowKit Go.Maps Go.Sort

theorem ks7 {w w' : World} {p1 p2 p3 p4 p5 p6 p7 : Addr} {v1 v2 v3 v4 v5 v6 v7 : Value} (h : w.cell? p1 = some v1 ∧ w.cell? p2 = some v2 ∧ w.cell? p3 = some v3 ∧ w.cell? p4 = some v4 ∧ w.cell? p5 = some v5 ∧ w.cell? p6 = some v6 ∧ w.cell? p7 = some v7) (k : Keep NoB w w') : w'.cell? p1 = some v1 ∧ w'.cell? p2 = some v2 ∧ w'.cell? p3 = some v3 ∧ w'.cell? p4 = some v4 ∧ w'.cell? p5 = some v5 ∧ w'.cell? p6 = some v6 ∧ w'.cell? p7 = some v7 := ⟨ks1 h.1 k, ks6 h.2 k⟩

theorem less_yes (x y : MK) (h : mlt x y) (w : World) : Calls Try.prog 30 #[.agg (mCells x).toArray, .agg (mCells y).toArray] w fun e w' => e = .returned (.bool true) ∧ Keep NoB w w' := less_any x y w true ⟨fun _ => h, fun _ => rfl⟩
theorem less_no (x y : MK) (h : ¬ mlt x y) (w : World) : Calls Try.prog 30 #[.agg (mCells x).toArray, .agg (mCells y).toArray] w fun e w' => e = .returned (.bool false) ∧ Keep NoB w w' := less_any x y w false ⟨(fun e => by cases e), fun e => absurd e h⟩
def RNPost (rb B : Nat) (limit : Int) (ok : Bool) (N : List MK) (w : World) (e : Ending) (w' : World) : Prop :=
  e = .returned (.bool ok) ∧ (∃ a cap, RT w' B rb a cap limit N) ∧ Keep (OneB rb) w w'











set_option maxHeartbeats 4000000 in
theorem rset_same (rb B : Nat) (a : Option Addr) (cap : Nat) (limit : Int) (N : List MK) (s : ByteArray) (sa sr : Int) (w : World) (T : RT w B rb a cap limit N) (hN : N.length ≤ 1000) (p : Nat) (hlt : ∀ i y, i < p → N[i]? = some y → mlt y (s, sa, sr)) (hp : N[p]? = some (s, sa, sr)) :
    Calls Try.prog 17 #[.pointer (some ⟨rb, 0, none⟩), .agg #[.string s, .int .i64 sa, .int .i64 sr]] w (RNPost rb B limit true N w) := by
  have Hlt := Lib.hid hlt
  have Hp := Lib.hid hp
  have hpl : p < N.length := (List.getElem?_eq_some_iff.1 hp).1
  clear hlt hp
  have HT := Lib.hid T
  clear T
  go_enter Try.func17, Try.ntmps17
  go_wp2_with fail
  have k0 : Keep NoB w (w.alloc (.cells #[.string s, .int .i64 sa, .int .i64 sr] 47)) := (Keep.refl NoB w).alloc _
  have b0 := blk_new w (.cells #[.string s, .int .i64 sa, .int .i64 sr] 47)
  generalize World.alloc w (.cells #[.string s, .int .i64 sa, .int .i64 sr] 47) = w0 at k0 b0 ⊢
  obtain ⟨xb, hxb⟩ : ∃ t, w.heap.size = t := ⟨_, rfl⟩
  rw [hxb] at b0 ⊢
  clear hxb
  go_loopw [5] (fun iv wr => ∃ k : Nat, k ≤ p ∧ iv = .int .i64 (k : Int) ∧ Keep NoB w wr ∧ wr.heap[xb]? = some (.cells #[.string s, .int .i64 sa, .int .i64 sr] 47 (0, 0))) (fun iv _ => N.length - (intOf iv).toNat)
  case atStart => exact ⟨0, Nat.zero_le _, rfl, k0, b0⟩
  case round =>
    clear k0 b0
    obtain ⟨k, hk, rfl, kr, br⟩ := hrel
    have TT := HT.out.keep0 kr
    have d0 := blk_cell TT.blk 0
    have d1 := blk_cell TT.blk 1
    have dl := blk_lt TT.blk
    have HTT := Lib.hid TT
    have x0 := blk_cell br 0
    have x1 := blk_cell br 1
    have x2 := blk_cell br 2
    have xl := blk_lt br
    have Hbr := Lib.hid br
    have Hkr := Lib.hid kr
    simp at d0 d1 x0 x1 x2
    clear TT br kr
    have hkl : k < N.length := by omega
    by_cases hkp : k < p
    · obtain ⟨y, hy⟩ : ∃ y, N[k]? = some y := ⟨_, List.getElem?_eq_getElem hkl⟩
      have hylt := Hlt.out k y hkp hy
      have Hyl := Lib.hid hylt
      obtain ⟨g, cg, hvv, hg1, hg2, hcx⟩ := HTT.out.own.cells mCells_len hy
      cases hvv
      have r0 := hcx 0 _ rfl
      have r1 := hcx 1 _ rfl
      have r2 := hcx 2 _ rfl
      simp only [Nat.add_zero] at r0
      obtain ⟨y0, y1, y2⟩ := y
      simp at r0 r1 r2
      clear hcx
      clear hy hylt
      go_wp2_with fail
      refine wp_region_pl (fun u => u.cell? ⟨rb, 0, none⟩ = some (.slice (some ⟨g, 0, none⟩) N.length cap) ∧ u.cell? ⟨g, k * 3, none⟩ = some (.string y0) ∧ u.cell? ⟨g, k * 3 + 1, none⟩ = some (.int .i64 y1) ∧ u.cell? ⟨g, k * 3 + 2, none⟩ = some (.int .i64 y2) ∧ u.cell? ⟨xb, 0, none⟩ = some (.string s) ∧ u.cell? ⟨xb, 1, none⟩ = some (.int .i64 sa) ∧ u.cell? ⟨xb, 2, none⟩ = some (.int .i64 sr)) [] (.rd 0 (.rd 1 (.rd 2 (.rd 3 (.rd 4 (.rd 5 (.rd 6 (.rd 7 (.rd 8 (.rd 9 (.rd 10 (.rd 11 (.rd 12 (.rd 13 (.rd 14 (.rd 15 (.one 16 (.rd 17 .done)))))))))))))))))) (by kernel_rfl) (by kernel_rfl) (by kernel_rfl) (by kernel_rfl) (by intro c b d v u h; cases d <;> exact h) ?_
      have kd0 : Keep NoB wr wr.drew := (Keep.refl NoB wr).drew
      have HS0 := Lib.hid (ks7 ⟨d0, r0, r1, r2, x0, x1, x2⟩ kd0)
      have Hkd := Lib.hid (Hkr.out.trans kd0)
      have Hbd := Lib.hid (blk_keep Hbr.out kd0 (fun h => h))
      clear kd0 d0 d1 r0 r1 r2 x0 x1 x2 HTT
      first
        | refine pl_get (i := 0) rfl rfl HS0.out rfl (fun u hu => by (try dsimp only at hu); go_simp; rfl) (by simp only [List.setIfInBounds_toArray, List.set_cons_succ, List.set_cons_zero]; rfl) ?_
        | refine pl_skip (i := 0) rfl rfl HS0.out rfl (by simp only [List.setIfInBounds_toArray, List.set_cons_succ, List.set_cons_zero]; rfl) ?_
      first
        | refine pl_get (i := 1) rfl rfl HS0.out rfl (fun u hu => by (try dsimp only at hu); go_simp; rfl) (by simp only [List.setIfInBounds_toArray, List.set_cons_succ, List.set_cons_zero]; rfl) ?_
        | refine pl_skip (i := 1) rfl rfl HS0.out rfl (by simp only [List.setIfInBounds_toArray, List.set_cons_succ, List.set_cons_zero]; rfl) ?_
      first
        | refine pl_get (i := 2) rfl rfl HS0.out rfl (fun u hu => by (try dsimp only at hu); go_simp; rfl) (by simp only [List.setIfInBounds_toArray, List.set_cons_succ, List.set_cons_zero]; rfl) ?_
        | refine pl_skip (i := 2) rfl rfl HS0.out rfl (by simp only [List.setIfInBounds_toArray, List.set_cons_succ, List.set_cons_zero]; rfl) ?_
      first
        | refine pl_get (i := 3) rfl rfl HS0.out rfl (fun u hu => by (try dsimp only at hu); go_simp; rfl) (by simp only [List.setIfInBounds_toArray, List.set_cons_succ, List.set_cons_zero]; rfl) ?_
        | refine pl_skip (i := 3) rfl rfl HS0.out rfl (by simp only [List.setIfInBounds_toArray, List.set_cons_succ, List.set_cons_zero]; rfl) ?_
      first
        | refine pl_get (i := 4) rfl rfl HS0.out rfl (fun u hu => by (try dsimp only at hu); go_simp; rfl) (by simp only [List.setIfInBounds_toArray, List.set_cons_succ, List.set_cons_zero]; rfl) ?_
        | refine pl_skip (i := 4) rfl rfl HS0.out rfl (by simp only [List.setIfInBounds_toArray, List.set_cons_succ, List.set_cons_zero]; rfl) ?_
      first
        | refine pl_get (i := 5) rfl rfl HS0.out rfl (fun u hu => by (try dsimp only at hu); go_simp; rfl) (by simp only [List.setIfInBounds_toArray, List.set_cons_succ, List.set_cons_zero]; rfl) ?_
        | refine pl_skip (i := 5) rfl rfl HS0.out rfl (by simp only [List.setIfInBounds_toArray, List.set_cons_succ, List.set_cons_zero]; rfl) ?_
      first
        | refine pl_get (i := 6) rfl rfl HS0.out rfl (fun u hu => by (try dsimp only at hu); go_simp; rfl) (by simp only [List.setIfInBounds_toArray, List.set_cons_succ, List.set_cons_zero]; rfl) ?_
        | refine pl_skip (i := 6) rfl rfl HS0.out rfl (by simp only [List.setIfInBounds_toArray, List.set_cons_succ, List.set_cons_zero]; rfl) ?_
      first
        | refine pl_get (i := 7) rfl rfl HS0.out rfl (fun u hu => by (try dsimp only at hu); go_simp; rfl) (by simp only [List.setIfInBounds_toArray, List.set_cons_succ, List.set_cons_zero]; rfl) ?_
        | refine pl_skip (i := 7) rfl rfl HS0.out rfl (by simp only [List.setIfInBounds_toArray, List.set_cons_succ, List.set_cons_zero]; rfl) ?_
      first
        | refine pl_get (i := 8) rfl rfl HS0.out rfl (fun u hu => by (try dsimp only at hu); go_simp; rfl) (by simp only [List.setIfInBounds_toArray, List.set_cons_succ, List.set_cons_zero]; rfl) ?_
        | refine pl_skip (i := 8) rfl rfl HS0.out rfl (by simp only [List.setIfInBounds_toArray, List.set_cons_succ, List.set_cons_zero]; rfl) ?_
      first
        | refine pl_get (i := 9) rfl rfl HS0.out rfl (fun u hu => by (try dsimp only at hu); go_simp; rfl) (by simp only [List.setIfInBounds_toArray, List.set_cons_succ, List.set_cons_zero]; rfl) ?_
        | refine pl_skip (i := 9) rfl rfl HS0.out rfl (by simp only [List.setIfInBounds_toArray, List.set_cons_succ, List.set_cons_zero]; rfl) ?_
      first
        | refine pl_get (i := 10) rfl rfl HS0.out rfl (fun u hu => by (try dsimp only at hu); go_simp; rfl) (by simp only [List.setIfInBounds_toArray, List.set_cons_succ, List.set_cons_zero]; rfl) ?_
        | refine pl_skip (i := 10) rfl rfl HS0.out rfl (by simp only [List.setIfInBounds_toArray, List.set_cons_succ, List.set_cons_zero]; rfl) ?_
      first
        | refine pl_get (i := 11) rfl rfl HS0.out rfl (fun u hu => by (try dsimp only at hu); go_simp; rfl) (by simp only [List.setIfInBounds_toArray, List.set_cons_succ, List.set_cons_zero]; rfl) ?_
        | refine pl_skip (i := 11) rfl rfl HS0.out rfl (by simp only [List.setIfInBounds_toArray, List.set_cons_succ, List.set_cons_zero]; rfl) ?_
      first
        | refine pl_get (i := 12) rfl rfl HS0.out rfl (fun u hu => by (try dsimp only at hu); go_simp; rfl) (by simp only [List.setIfInBounds_toArray, List.set_cons_succ, List.set_cons_zero]; rfl) ?_
        | refine pl_skip (i := 12) rfl rfl HS0.out rfl (by simp only [List.setIfInBounds_toArray, List.set_cons_succ, List.set_cons_zero]; rfl) ?_
      first
        | refine pl_get (i := 13) rfl rfl HS0.out rfl (fun u hu => by (try dsimp only at hu); go_simp; rfl) (by simp only [List.setIfInBounds_toArray, List.set_cons_succ, List.set_cons_zero]; rfl) ?_
        | refine pl_skip (i := 13) rfl rfl HS0.out rfl (by simp only [List.setIfInBounds_toArray, List.set_cons_succ, List.set_cons_zero]; rfl) ?_
      first
        | refine pl_get (i := 14) rfl rfl HS0.out rfl (fun u hu => by (try dsimp only at hu); go_simp; rfl) (by simp only [List.setIfInBounds_toArray, List.set_cons_succ, List.set_cons_zero]; rfl) ?_
        | refine pl_skip (i := 14) rfl rfl HS0.out rfl (by simp only [List.setIfInBounds_toArray, List.set_cons_succ, List.set_cons_zero]; rfl) ?_
      first
        | refine pl_get (i := 15) rfl rfl HS0.out rfl (fun u hu => by (try dsimp only at hu); go_simp; rfl) (by simp only [List.setIfInBounds_toArray, List.set_cons_succ, List.set_cons_zero]; rfl) ?_
        | refine pl_skip (i := 15) rfl rfl HS0.out rfl (by simp only [List.setIfInBounds_toArray, List.set_cons_succ, List.set_cons_zero]; rfl) ?_
      refine pl_one (i := 16) rfl ?_
      go_wp2_with ((go_at_call 30; refine (less_yes (y0, y1, y2) (s, sa, sr) Hyl.out _).mono ?_; rintro _ w3 ⟨rfl, k3⟩))
      have HS3 := Lib.hid (ks7 HS0.out k3)
      have Hk3 := Lib.hid (Hkd.out.trans k3)
      have Hb3 := Lib.hid (blk_keep Hbd.out k3 (fun h => h))
      clear k3
      refine pl_next (fun _ => HS3.out) ?_
      first
        | refine pl_get (i := 17) rfl rfl HS3.out rfl (fun u hu => by (try dsimp only at hu); go_simp; rfl) (by simp only [List.setIfInBounds_toArray, List.set_cons_succ, List.set_cons_zero]; rfl) ?_
        | refine pl_skip (i := 17) rfl rfl HS3.out rfl (by simp only [List.setIfInBounds_toArray, List.set_cons_succ, List.set_cons_zero]; rfl) ?_
      refine pl_done ?_
      go_wp2_with fail
      go_roundw
      case rel => exact ⟨k + 1, hkp, by go_num, Hk3.out, Hb3.out⟩
      case measure => simp [intOf]; omega
    · obtain rfl : k = p := by omega
      obtain ⟨y0, y1, y2, hy, hye⟩ : ∃ (y0 : ByteArray) (y1 y2 : Int), N[k]? = some (y0, y1, y2) ∧ ((y0, y1, y2) : MK) = (s, sa, sr) := ⟨s, sa, sr, Hp.out, rfl⟩
      obtain ⟨g, cg, hvv, hg1, hg2, hcx⟩ := HTT.out.own.cells mCells_len hy
      cases hvv
      have r0 := hcx 0 _ rfl
      have r1 := hcx 1 _ rfl
      have r2 := hcx 2 _ rfl
      simp only [Nat.add_zero] at r0
      simp at r0 r1 r2
      clear hcx
      have Hye := Lib.hid hye
      have Hnl := Lib.hid (show ¬ mlt (y0, y1, y2) (s, sa, sr) from by rw [hye]; exact mlt_irrefl _)
      have Hy := Lib.hid hy
      clear hy hye
      go_wp2_with fail
      refine wp_region_pl (fun u => u.cell? ⟨rb, 0, none⟩ = some (.slice (some ⟨g, 0, none⟩) N.length cap) ∧ u.cell? ⟨g, k * 3, none⟩ = some (.string y0) ∧ u.cell? ⟨g, k * 3 + 1, none⟩ = some (.int .i64 y1) ∧ u.cell? ⟨g, k * 3 + 2, none⟩ = some (.int .i64 y2) ∧ u.cell? ⟨xb, 0, none⟩ = some (.string s) ∧ u.cell? ⟨xb, 1, none⟩ = some (.int .i64 sa) ∧ u.cell? ⟨xb, 2, none⟩ = some (.int .i64 sr)) [] (.rd 0 (.rd 1 (.rd 2 (.rd 3 (.rd 4 (.rd 5 (.rd 6 (.rd 7 (.rd 8 (.rd 9 (.rd 10 (.rd 11 (.rd 12 (.rd 13 (.rd 14 (.rd 15 (.one 16 (.rd 17 .done)))))))))))))))))) (by kernel_rfl) (by kernel_rfl) (by kernel_rfl) (by kernel_rfl) (by intro c b d v u h; cases d <;> exact h) ?_
      have kd0 : Keep NoB wr wr.drew := (Keep.refl NoB wr).drew
      have HS0 := Lib.hid (ks7 ⟨d0, r0, r1, r2, x0, x1, x2⟩ kd0)
      have Hkd := Lib.hid (Hkr.out.trans kd0)
      have Hbd := Lib.hid (blk_keep Hbr.out kd0 (fun h => h))
      clear kd0 d0 d1 r0 r1 r2 x0 x1 x2 HTT
      first
        | refine pl_get (i := 0) rfl rfl HS0.out rfl (fun u hu => by (try dsimp only at hu); go_simp; rfl) (by simp only [List.setIfInBounds_toArray, List.set_cons_succ, List.set_cons_zero]; rfl) ?_
        | refine pl_skip (i := 0) rfl rfl HS0.out rfl (by simp only [List.setIfInBounds_toArray, List.set_cons_succ, List.set_cons_zero]; rfl) ?_
      first
        | refine pl_get (i := 1) rfl rfl HS0.out rfl (fun u hu => by (try dsimp only at hu); go_simp; rfl) (by simp only [List.setIfInBounds_toArray, List.set_cons_succ, List.set_cons_zero]; rfl) ?_
        | refine pl_skip (i := 1) rfl rfl HS0.out rfl (by simp only [List.setIfInBounds_toArray, List.set_cons_succ, List.set_cons_zero]; rfl) ?_
      first
        | refine pl_get (i := 2) rfl rfl HS0.out rfl (fun u hu => by (try dsimp only at hu); go_simp; rfl) (by simp only [List.setIfInBounds_toArray, List.set_cons_succ, List.set_cons_zero]; rfl) ?_
        | refine pl_skip (i := 2) rfl rfl HS0.out rfl (by simp only [List.setIfInBounds_toArray, List.set_cons_succ, List.set_cons_zero]; rfl) ?_
      first
        | refine pl_get (i := 3) rfl rfl HS0.out rfl (fun u hu => by (try dsimp only at hu); go_simp; rfl) (by simp only [List.setIfInBounds_toArray, List.set_cons_succ, List.set_cons_zero]; rfl) ?_
        | refine pl_skip (i := 3) rfl rfl HS0.out rfl (by simp only [List.setIfInBounds_toArray, List.set_cons_succ, List.set_cons_zero]; rfl) ?_
      first
        | refine pl_get (i := 4) rfl rfl HS0.out rfl (fun u hu => by (try dsimp only at hu); go_simp; rfl) (by simp only [List.setIfInBounds_toArray, List.set_cons_succ, List.set_cons_zero]; rfl) ?_
        | refine pl_skip (i := 4) rfl rfl HS0.out rfl (by simp only [List.setIfInBounds_toArray, List.set_cons_succ, List.set_cons_zero]; rfl) ?_
      first
        | refine pl_get (i := 5) rfl rfl HS0.out rfl (fun u hu => by (try dsimp only at hu); go_simp; rfl) (by simp only [List.setIfInBounds_toArray, List.set_cons_succ, List.set_cons_zero]; rfl) ?_
        | refine pl_skip (i := 5) rfl rfl HS0.out rfl (by simp only [List.setIfInBounds_toArray, List.set_cons_succ, List.set_cons_zero]; rfl) ?_
      first
        | refine pl_get (i := 6) rfl rfl HS0.out rfl (fun u hu => by (try dsimp only at hu); go_simp; rfl) (by simp only [List.setIfInBounds_toArray, List.set_cons_succ, List.set_cons_zero]; rfl) ?_
        | refine pl_skip (i := 6) rfl rfl HS0.out rfl (by simp only [List.setIfInBounds_toArray, List.set_cons_succ, List.set_cons_zero]; rfl) ?_
      first
        | refine pl_get (i := 7) rfl rfl HS0.out rfl (fun u hu => by (try dsimp only at hu); go_simp; rfl) (by simp only [List.setIfInBounds_toArray, List.set_cons_succ, List.set_cons_zero]; rfl) ?_
        | refine pl_skip (i := 7) rfl rfl HS0.out rfl (by simp only [List.setIfInBounds_toArray, List.set_cons_succ, List.set_cons_zero]; rfl) ?_
      first
        | refine pl_get (i := 8) rfl rfl HS0.out rfl (fun u hu => by (try dsimp only at hu); go_simp; rfl) (by simp only [List.setIfInBounds_toArray, List.set_cons_succ, List.set_cons_zero]; rfl) ?_
        | refine pl_skip (i := 8) rfl rfl HS0.out rfl (by simp only [List.setIfInBounds_toArray, List.set_cons_succ, List.set_cons_zero]; rfl) ?_
      first
        | refine pl_get (i := 9) rfl rfl HS0.out rfl (fun u hu => by (try dsimp only at hu); go_simp; rfl) (by simp only [List.setIfInBounds_toArray, List.set_cons_succ, List.set_cons_zero]; rfl) ?_
        | refine pl_skip (i := 9) rfl rfl HS0.out rfl (by simp only [List.setIfInBounds_toArray, List.set_cons_succ, List.set_cons_zero]; rfl) ?_
      first
        | refine pl_get (i := 10) rfl rfl HS0.out rfl (fun u hu => by (try dsimp only at hu); go_simp; rfl) (by simp only [List.setIfInBounds_toArray, List.set_cons_succ, List.set_cons_zero]; rfl) ?_
        | refine pl_skip (i := 10) rfl rfl HS0.out rfl (by simp only [List.setIfInBounds_toArray, List.set_cons_succ, List.set_cons_zero]; rfl) ?_
      first
        | refine pl_get (i := 11) rfl rfl HS0.out rfl (fun u hu => by (try dsimp only at hu); go_simp; rfl) (by simp only [List.setIfInBounds_toArray, List.set_cons_succ, List.set_cons_zero]; rfl) ?_
        | refine pl_skip (i := 11) rfl rfl HS0.out rfl (by simp only [List.setIfInBounds_toArray, List.set_cons_succ, List.set_cons_zero]; rfl) ?_
      first
        | refine pl_get (i := 12) rfl rfl HS0.out rfl (fun u hu => by (try dsimp only at hu); go_simp; rfl) (by simp only [List.setIfInBounds_toArray, List.set_cons_succ, List.set_cons_zero]; rfl) ?_
        | refine pl_skip (i := 12) rfl rfl HS0.out rfl (by simp only [List.setIfInBounds_toArray, List.set_cons_succ, List.set_cons_zero]; rfl) ?_
      first
        | refine pl_get (i := 13) rfl rfl HS0.out rfl (fun u hu => by (try dsimp only at hu); go_simp; rfl) (by simp only [List.setIfInBounds_toArray, List.set_cons_succ, List.set_cons_zero]; rfl) ?_
        | refine pl_skip (i := 13) rfl rfl HS0.out rfl (by simp only [List.setIfInBounds_toArray, List.set_cons_succ, List.set_cons_zero]; rfl) ?_
      first
        | refine pl_get (i := 14) rfl rfl HS0.out rfl (fun u hu => by (try dsimp only at hu); go_simp; rfl) (by simp only [List.setIfInBounds_toArray, List.set_cons_succ, List.set_cons_zero]; rfl) ?_
        | refine pl_skip (i := 14) rfl rfl HS0.out rfl (by simp only [List.setIfInBounds_toArray, List.set_cons_succ, List.set_cons_zero]; rfl) ?_
      first
        | refine pl_get (i := 15) rfl rfl HS0.out rfl (fun u hu => by (try dsimp only at hu); go_simp; rfl) (by simp only [List.setIfInBounds_toArray, List.set_cons_succ, List.set_cons_zero]; rfl) ?_
        | refine pl_skip (i := 15) rfl rfl HS0.out rfl (by simp only [List.setIfInBounds_toArray, List.set_cons_succ, List.set_cons_zero]; rfl) ?_
      refine pl_one (i := 16) rfl ?_
      go_wp2_with ((go_at_call 30; refine (less_no (y0, y1, y2) (s, sa, sr) Hnl.out _).mono ?_; rintro _ w3 ⟨rfl, k3⟩))
      have HS3 := Lib.hid (ks7 HS0.out k3)
      have Hk3 := Lib.hid (Hkd.out.trans k3)
      have Hb3 := Lib.hid (blk_keep Hbd.out k3 (fun h => h))
      clear k3
      refine pl_next (fun _ => HS3.out) ?_
      first
        | refine pl_get (i := 17) rfl rfl HS3.out rfl (fun u hu => by (try dsimp only at hu); go_simp; rfl) (by simp only [List.setIfInBounds_toArray, List.set_cons_succ, List.set_cons_zero]; rfl) ?_
        | refine pl_skip (i := 17) rfl rfl HS3.out rfl (by simp only [List.setIfInBounds_toArray, List.set_cons_succ, List.set_cons_zero]; rfl) ?_
      refine pl_done ?_
      go_wp2_with fail
      have hy := Hy.out
      obtain ⟨e0, e1, e2⟩ : y0 = s ∧ y1 = sa ∧ y2 = sr := by have := Hye.out; exact ⟨congrArg (fun q : MK => q.1) this, congrArg (fun q : MK => q.2.1) this, congrArg (fun q : MK => q.2.2) this⟩
      subst e0 e1 e2
      (try clear d0)
      (try clear d1)
      (try clear dl)
      (try clear x0)
      (try clear x1)
      (try clear x2)
      (try clear xl)
      (try clear r0)
      (try clear r1)
      (try clear r2)
      have TT := HT.out.keep0 Hk3.out
      have d0 := blk_cell TT.blk 0
      have d1 := blk_cell TT.blk 1
      have dl := blk_lt TT.blk
      have HTT := Lib.hid TT
      have x0 := blk_cell Hb3.out 0
      have x1 := blk_cell Hb3.out 1
      have x2 := blk_cell Hb3.out 2
      have xl := blk_lt Hb3.out
      simp at d0 d1 x0 x1 x2
      clear TT
      obtain ⟨g9, cg9, hvv, hg1, hg2, hcx⟩ := HTT.out.own.cells mCells_len hy
      cases hvv
      have r0 := hcx 0 _ rfl
      have r1 := hcx 1 _ rfl
      have r2 := hcx 2 _ rfl
      simp only [Nat.add_zero] at r0
      simp at r0 r1 r2
      clear hcx hy
      go_quiet (fail)
      have kz : Keep NoB w3 (w3.drewN nq) := (Keep.refl NoB w3).drewN nq
      have Hk4 := Lib.hid (Hk3.out.trans kz)
      have Hb4 := Lib.hid (blk_keep Hb3.out kz (fun h => h))
      generalize w3.drewN nq = wq at kz Hk4 Hb4 ⊢
      clear kz
      go_wp2
      go_ret
      exact ⟨rfl, ⟨_, cap, HT.out.keep0 Hk4.out⟩, Hk4.out.none⟩






set_option maxHeartbeats 4000000 in
theorem rset_mid_busy (rb B : Nat) (a : Option Addr) (cap : Nat) (limit : Int) (N : List MK) (s : ByteArray) (sa sr : Int) (w : World) (T : RT w B rb a cap limit N) (hN : N.length ≤ 1000) (p : Nat) (y0 : ByteArray) (y1 y2 : Int) (hlt : ∀ i y, i < p → N[i]? = some y → mlt y (s, sa, sr)) (hp : N[p]? = some (y0, y1, y2)) (hl : mlt (s, sa, sr) (y0, y1, y2)) (hb : limit ≤ N.length) :
    Calls Try.prog 17 #[.pointer (some ⟨rb, 0, none⟩), .agg #[.string s, .int .i64 sa, .int .i64 sr]] w (RNPost rb B limit false N w) := by
  have Hlt := Lib.hid hlt
  have Hy := Lib.hid hp
  have hpl : p < N.length := (List.getElem?_eq_some_iff.1 hp).1
  have Hnl := Lib.hid (show ¬ mlt (y0, y1, y2) (s, sa, sr) from fun e => mlt_irrefl _ (mlt_trans hl e))
  have Hdiff := Lib.hid (show (y0.toList == s.toList) = false ∨ (y1 == sa) = false ∨ (y2 == sr) = false from by
    rcases hl with h | ⟨_, h | ⟨_, h⟩⟩
    · exact Or.inl (tx_ne (fun e => by subst e; exact List.lt_irrefl _ h))
    · exact Or.inr (Or.inl (by simp only at h; simp; omega))
    · exact Or.inr (Or.inr (by simp only at h; simp; omega)))
  clear hlt hp hl
  have hdb : decide (limit ≤ (N.length : Int)) = true := decide_eq_true hb
  clear hb
  have HT := Lib.hid T
  clear T
  go_enter Try.func17, Try.ntmps17
  go_wp2_with fail
  have k0 : Keep NoB w (w.alloc (.cells #[.string s, .int .i64 sa, .int .i64 sr] 47)) := (Keep.refl NoB w).alloc _
  have b0 := blk_new w (.cells #[.string s, .int .i64 sa, .int .i64 sr] 47)
  generalize World.alloc w (.cells #[.string s, .int .i64 sa, .int .i64 sr] 47) = w0 at k0 b0 ⊢
  obtain ⟨xb, hxb⟩ : ∃ t, w.heap.size = t := ⟨_, rfl⟩
  rw [hxb] at b0 ⊢
  clear hxb
  go_loopw [5] (fun iv wr => ∃ k : Nat, k ≤ p ∧ iv = .int .i64 (k : Int) ∧ Keep NoB w wr ∧ wr.heap[xb]? = some (.cells #[.string s, .int .i64 sa, .int .i64 sr] 47 (0, 0))) (fun iv _ => N.length - (intOf iv).toNat)
  case atStart => exact ⟨0, Nat.zero_le _, rfl, k0, b0⟩
  case round =>
    clear k0 b0
    obtain ⟨k, hk, rfl, kr, br⟩ := hrel
    have TT := HT.out.keep0 kr
    have d0 := blk_cell TT.blk 0
    have d1 := blk_cell TT.blk 1
    have dl := blk_lt TT.blk
    have HTT := Lib.hid TT
    have x0 := blk_cell br 0
    have x1 := blk_cell br 1
    have x2 := blk_cell br 2
    have xl := blk_lt br
    have Hbr := Lib.hid br
    have Hkr := Lib.hid kr
    simp at d0 d1 x0 x1 x2
    clear TT br kr
    have hkl : k < N.length := by omega
    by_cases hkp : k < p
    · obtain ⟨y, hy⟩ : ∃ y, N[k]? = some y := ⟨_, List.getElem?_eq_getElem hkl⟩
      have hylt := Hlt.out k y hkp hy
      have Hyl := Lib.hid hylt
      obtain ⟨g, cg, hvv, hg1, hg2, hcx⟩ := HTT.out.own.cells mCells_len hy
      cases hvv
      have r0 := hcx 0 _ rfl
      have r1 := hcx 1 _ rfl
      have r2 := hcx 2 _ rfl
      simp only [Nat.add_zero] at r0
      obtain ⟨y0, y1, y2⟩ := y
      simp at r0 r1 r2
      clear hcx
      clear hy hylt
      go_wp2_with fail
      refine wp_region_pl (fun u => u.cell? ⟨rb, 0, none⟩ = some (.slice (some ⟨g, 0, none⟩) N.length cap) ∧ u.cell? ⟨g, k * 3, none⟩ = some (.string y0) ∧ u.cell? ⟨g, k * 3 + 1, none⟩ = some (.int .i64 y1) ∧ u.cell? ⟨g, k * 3 + 2, none⟩ = some (.int .i64 y2) ∧ u.cell? ⟨xb, 0, none⟩ = some (.string s) ∧ u.cell? ⟨xb, 1, none⟩ = some (.int .i64 sa) ∧ u.cell? ⟨xb, 2, none⟩ = some (.int .i64 sr)) [] (.rd 0 (.rd 1 (.rd 2 (.rd 3 (.rd 4 (.rd 5 (.rd 6 (.rd 7 (.rd 8 (.rd 9 (.rd 10 (.rd 11 (.rd 12 (.rd 13 (.rd 14 (.rd 15 (.one 16 (.rd 17 .done)))))))))))))))))) (by kernel_rfl) (by kernel_rfl) (by kernel_rfl) (by kernel_rfl) (by intro c b d v u h; cases d <;> exact h) ?_
      have kd0 : Keep NoB wr wr.drew := (Keep.refl NoB wr).drew
      have HS0 := Lib.hid (ks7 ⟨d0, r0, r1, r2, x0, x1, x2⟩ kd0)
      have Hkd := Lib.hid (Hkr.out.trans kd0)
      have Hbd := Lib.hid (blk_keep Hbr.out kd0 (fun h => h))
      clear kd0 d0 d1 r0 r1 r2 x0 x1 x2 HTT
      first
        | refine pl_get (i := 0) rfl rfl HS0.out rfl (fun u hu => by (try dsimp only at hu); go_simp; rfl) (by simp only [List.setIfInBounds_toArray, List.set_cons_succ, List.set_cons_zero]; rfl) ?_
        | refine pl_skip (i := 0) rfl rfl HS0.out rfl (by simp only [List.setIfInBounds_toArray, List.set_cons_succ, List.set_cons_zero]; rfl) ?_
      first
        | refine pl_get (i := 1) rfl rfl HS0.out rfl (fun u hu => by (try dsimp only at hu); go_simp; rfl) (by simp only [List.setIfInBounds_toArray, List.set_cons_succ, List.set_cons_zero]; rfl) ?_
        | refine pl_skip (i := 1) rfl rfl HS0.out rfl (by simp only [List.setIfInBounds_toArray, List.set_cons_succ, List.set_cons_zero]; rfl) ?_
      first
        | refine pl_get (i := 2) rfl rfl HS0.out rfl (fun u hu => by (try dsimp only at hu); go_simp; rfl) (by simp only [List.setIfInBounds_toArray, List.set_cons_succ, List.set_cons_zero]; rfl) ?_
        | refine pl_skip (i := 2) rfl rfl HS0.out rfl (by simp only [List.setIfInBounds_toArray, List.set_cons_succ, List.set_cons_zero]; rfl) ?_
      first
        | refine pl_get (i := 3) rfl rfl HS0.out rfl (fun u hu => by (try dsimp only at hu); go_simp; rfl) (by simp only [List.setIfInBounds_toArray, List.set_cons_succ, List.set_cons_zero]; rfl) ?_
        | refine pl_skip (i := 3) rfl rfl HS0.out rfl (by simp only [List.setIfInBounds_toArray, List.set_cons_succ, List.set_cons_zero]; rfl) ?_
      first
        | refine pl_get (i := 4) rfl rfl HS0.out rfl (fun u hu => by (try dsimp only at hu); go_simp; rfl) (by simp only [List.setIfInBounds_toArray, List.set_cons_succ, List.set_cons_zero]; rfl) ?_
        | refine pl_skip (i := 4) rfl rfl HS0.out rfl (by simp only [List.setIfInBounds_toArray, List.set_cons_succ, List.set_cons_zero]; rfl) ?_
      first
        | refine pl_get (i := 5) rfl rfl HS0.out rfl (fun u hu => by (try dsimp only at hu); go_simp; rfl) (by simp only [List.setIfInBounds_toArray, List.set_cons_succ, List.set_cons_zero]; rfl) ?_
        | refine pl_skip (i := 5) rfl rfl HS0.out rfl (by simp only [List.setIfInBounds_toArray, List.set_cons_succ, List.set_cons_zero]; rfl) ?_
      first
        | refine pl_get (i := 6) rfl rfl HS0.out rfl (fun u hu => by (try dsimp only at hu); go_simp; rfl) (by simp only [List.setIfInBounds_toArray, List.set_cons_succ, List.set_cons_zero]; rfl) ?_
        | refine pl_skip (i := 6) rfl rfl HS0.out rfl (by simp only [List.setIfInBounds_toArray, List.set_cons_succ, List.set_cons_zero]; rfl) ?_
      first
        | refine pl_get (i := 7) rfl rfl HS0.out rfl (fun u hu => by (try dsimp only at hu); go_simp; rfl) (by simp only [List.setIfInBounds_toArray, List.set_cons_succ, List.set_cons_zero]; rfl) ?_
        | refine pl_skip (i := 7) rfl rfl HS0.out rfl (by simp only [List.setIfInBounds_toArray, List.set_cons_succ, List.set_cons_zero]; rfl) ?_
      first
        | refine pl_get (i := 8) rfl rfl HS0.out rfl (fun u hu => by (try dsimp only at hu); go_simp; rfl) (by simp only [List.setIfInBounds_toArray, List.set_cons_succ, List.set_cons_zero]; rfl) ?_
        | refine pl_skip (i := 8) rfl rfl HS0.out rfl (by simp only [List.setIfInBounds_toArray, List.set_cons_succ, List.set_cons_zero]; rfl) ?_
      first
        | refine pl_get (i := 9) rfl rfl HS0.out rfl (fun u hu => by (try dsimp only at hu); go_simp; rfl) (by simp only [List.setIfInBounds_toArray, List.set_cons_succ, List.set_cons_zero]; rfl) ?_
        | refine pl_skip (i := 9) rfl rfl HS0.out rfl (by simp only [List.setIfInBounds_toArray, List.set_cons_succ, List.set_cons_zero]; rfl) ?_
      first
        | refine pl_get (i := 10) rfl rfl HS0.out rfl (fun u hu => by (try dsimp only at hu); go_simp; rfl) (by simp only [List.setIfInBounds_toArray, List.set_cons_succ, List.set_cons_zero]; rfl) ?_
        | refine pl_skip (i := 10) rfl rfl HS0.out rfl (by simp only [List.setIfInBounds_toArray, List.set_cons_succ, List.set_cons_zero]; rfl) ?_
      first
        | refine pl_get (i := 11) rfl rfl HS0.out rfl (fun u hu => by (try dsimp only at hu); go_simp; rfl) (by simp only [List.setIfInBounds_toArray, List.set_cons_succ, List.set_cons_zero]; rfl) ?_
        | refine pl_skip (i := 11) rfl rfl HS0.out rfl (by simp only [List.setIfInBounds_toArray, List.set_cons_succ, List.set_cons_zero]; rfl) ?_
      first
        | refine pl_get (i := 12) rfl rfl HS0.out rfl (fun u hu => by (try dsimp only at hu); go_simp; rfl) (by simp only [List.setIfInBounds_toArray, List.set_cons_succ, List.set_cons_zero]; rfl) ?_
        | refine pl_skip (i := 12) rfl rfl HS0.out rfl (by simp only [List.setIfInBounds_toArray, List.set_cons_succ, List.set_cons_zero]; rfl) ?_
      first
        | refine pl_get (i := 13) rfl rfl HS0.out rfl (fun u hu => by (try dsimp only at hu); go_simp; rfl) (by simp only [List.setIfInBounds_toArray, List.set_cons_succ, List.set_cons_zero]; rfl) ?_
        | refine pl_skip (i := 13) rfl rfl HS0.out rfl (by simp only [List.setIfInBounds_toArray, List.set_cons_succ, List.set_cons_zero]; rfl) ?_
      first
        | refine pl_get (i := 14) rfl rfl HS0.out rfl (fun u hu => by (try dsimp only at hu); go_simp; rfl) (by simp only [List.setIfInBounds_toArray, List.set_cons_succ, List.set_cons_zero]; rfl) ?_
        | refine pl_skip (i := 14) rfl rfl HS0.out rfl (by simp only [List.setIfInBounds_toArray, List.set_cons_succ, List.set_cons_zero]; rfl) ?_
      first
        | refine pl_get (i := 15) rfl rfl HS0.out rfl (fun u hu => by (try dsimp only at hu); go_simp; rfl) (by simp only [List.setIfInBounds_toArray, List.set_cons_succ, List.set_cons_zero]; rfl) ?_
        | refine pl_skip (i := 15) rfl rfl HS0.out rfl (by simp only [List.setIfInBounds_toArray, List.set_cons_succ, List.set_cons_zero]; rfl) ?_
      refine pl_one (i := 16) rfl ?_
      go_wp2_with ((go_at_call 30; refine (less_yes (y0, y1, y2) (s, sa, sr) Hyl.out _).mono ?_; rintro _ w3 ⟨rfl, k3⟩))
      have HS3 := Lib.hid (ks7 HS0.out k3)
      have Hk3 := Lib.hid (Hkd.out.trans k3)
      have Hb3 := Lib.hid (blk_keep Hbd.out k3 (fun h => h))
      clear k3
      refine pl_next (fun _ => HS3.out) ?_
      first
        | refine pl_get (i := 17) rfl rfl HS3.out rfl (fun u hu => by (try dsimp only at hu); go_simp; rfl) (by simp only [List.setIfInBounds_toArray, List.set_cons_succ, List.set_cons_zero]; rfl) ?_
        | refine pl_skip (i := 17) rfl rfl HS3.out rfl (by simp only [List.setIfInBounds_toArray, List.set_cons_succ, List.set_cons_zero]; rfl) ?_
      refine pl_done ?_
      go_wp2_with fail
      go_roundw
      case rel => exact ⟨k + 1, hkp, by go_num, Hk3.out, Hb3.out⟩
      case measure => simp [intOf]; omega
    · obtain rfl : k = p := by omega
      have hy := Hy.out
      obtain ⟨g, cg, hvv, hg1, hg2, hcx⟩ := HTT.out.own.cells mCells_len hy
      cases hvv
      have r0 := hcx 0 _ rfl
      have r1 := hcx 1 _ rfl
      have r2 := hcx 2 _ rfl
      simp only [Nat.add_zero] at r0
      simp at r0 r1 r2
      clear hcx
      clear hy
      have hkle : k ≤ N.length := by omega
      go_wp2_with fail
      refine wp_region_pl (fun u => u.cell? ⟨rb, 0, none⟩ = some (.slice (some ⟨g, 0, none⟩) N.length cap) ∧ u.cell? ⟨g, k * 3, none⟩ = some (.string y0) ∧ u.cell? ⟨g, k * 3 + 1, none⟩ = some (.int .i64 y1) ∧ u.cell? ⟨g, k * 3 + 2, none⟩ = some (.int .i64 y2) ∧ u.cell? ⟨xb, 0, none⟩ = some (.string s) ∧ u.cell? ⟨xb, 1, none⟩ = some (.int .i64 sa) ∧ u.cell? ⟨xb, 2, none⟩ = some (.int .i64 sr)) [] (.rd 0 (.rd 1 (.rd 2 (.rd 3 (.rd 4 (.rd 5 (.rd 6 (.rd 7 (.rd 8 (.rd 9 (.rd 10 (.rd 11 (.rd 12 (.rd 13 (.rd 14 (.rd 15 (.one 16 (.rd 17 .done)))))))))))))))))) (by kernel_rfl) (by kernel_rfl) (by kernel_rfl) (by kernel_rfl) (by intro c b d v u h; cases d <;> exact h) ?_
      have kd0 : Keep NoB wr wr.drew := (Keep.refl NoB wr).drew
      have HS0 := Lib.hid (ks7 ⟨d0, r0, r1, r2, x0, x1, x2⟩ kd0)
      have Hkd := Lib.hid (Hkr.out.trans kd0)
      have Hbd := Lib.hid (blk_keep Hbr.out kd0 (fun h => h))
      clear kd0 d0 d1 r0 r1 r2 x0 x1 x2 HTT
      first
        | refine pl_get (i := 0) rfl rfl HS0.out rfl (fun u hu => by (try dsimp only at hu); go_simp; rfl) (by simp only [List.setIfInBounds_toArray, List.set_cons_succ, List.set_cons_zero]; rfl) ?_
        | refine pl_skip (i := 0) rfl rfl HS0.out rfl (by simp only [List.setIfInBounds_toArray, List.set_cons_succ, List.set_cons_zero]; rfl) ?_
      first
        | refine pl_get (i := 1) rfl rfl HS0.out rfl (fun u hu => by (try dsimp only at hu); go_simp; rfl) (by simp only [List.setIfInBounds_toArray, List.set_cons_succ, List.set_cons_zero]; rfl) ?_
        | refine pl_skip (i := 1) rfl rfl HS0.out rfl (by simp only [List.setIfInBounds_toArray, List.set_cons_succ, List.set_cons_zero]; rfl) ?_
      first
        | refine pl_get (i := 2) rfl rfl HS0.out rfl (fun u hu => by (try dsimp only at hu); go_simp; rfl) (by simp only [List.setIfInBounds_toArray, List.set_cons_succ, List.set_cons_zero]; rfl) ?_
        | refine pl_skip (i := 2) rfl rfl HS0.out rfl (by simp only [List.setIfInBounds_toArray, List.set_cons_succ, List.set_cons_zero]; rfl) ?_
      first
        | refine pl_get (i := 3) rfl rfl HS0.out rfl (fun u hu => by (try dsimp only at hu); go_simp; rfl) (by simp only [List.setIfInBounds_toArray, List.set_cons_succ, List.set_cons_zero]; rfl) ?_
        | refine pl_skip (i := 3) rfl rfl HS0.out rfl (by simp only [List.setIfInBounds_toArray, List.set_cons_succ, List.set_cons_zero]; rfl) ?_
      first
        | refine pl_get (i := 4) rfl rfl HS0.out rfl (fun u hu => by (try dsimp only at hu); go_simp; rfl) (by simp only [List.setIfInBounds_toArray, List.set_cons_succ, List.set_cons_zero]; rfl) ?_
        | refine pl_skip (i := 4) rfl rfl HS0.out rfl (by simp only [List.setIfInBounds_toArray, List.set_cons_succ, List.set_cons_zero]; rfl) ?_
      first
        | refine pl_get (i := 5) rfl rfl HS0.out rfl (fun u hu => by (try dsimp only at hu); go_simp; rfl) (by simp only [List.setIfInBounds_toArray, List.set_cons_succ, List.set_cons_zero]; rfl) ?_
        | refine pl_skip (i := 5) rfl rfl HS0.out rfl (by simp only [List.setIfInBounds_toArray, List.set_cons_succ, List.set_cons_zero]; rfl) ?_
      first
        | refine pl_get (i := 6) rfl rfl HS0.out rfl (fun u hu => by (try dsimp only at hu); go_simp; rfl) (by simp only [List.setIfInBounds_toArray, List.set_cons_succ, List.set_cons_zero]; rfl) ?_
        | refine pl_skip (i := 6) rfl rfl HS0.out rfl (by simp only [List.setIfInBounds_toArray, List.set_cons_succ, List.set_cons_zero]; rfl) ?_
      first
        | refine pl_get (i := 7) rfl rfl HS0.out rfl (fun u hu => by (try dsimp only at hu); go_simp; rfl) (by simp only [List.setIfInBounds_toArray, List.set_cons_succ, List.set_cons_zero]; rfl) ?_
        | refine pl_skip (i := 7) rfl rfl HS0.out rfl (by simp only [List.setIfInBounds_toArray, List.set_cons_succ, List.set_cons_zero]; rfl) ?_
      first
        | refine pl_get (i := 8) rfl rfl HS0.out rfl (fun u hu => by (try dsimp only at hu); go_simp; rfl) (by simp only [List.setIfInBounds_toArray, List.set_cons_succ, List.set_cons_zero]; rfl) ?_
        | refine pl_skip (i := 8) rfl rfl HS0.out rfl (by simp only [List.setIfInBounds_toArray, List.set_cons_succ, List.set_cons_zero]; rfl) ?_
      first
        | refine pl_get (i := 9) rfl rfl HS0.out rfl (fun u hu => by (try dsimp only at hu); go_simp; rfl) (by simp only [List.setIfInBounds_toArray, List.set_cons_succ, List.set_cons_zero]; rfl) ?_
        | refine pl_skip (i := 9) rfl rfl HS0.out rfl (by simp only [List.setIfInBounds_toArray, List.set_cons_succ, List.set_cons_zero]; rfl) ?_
      first
        | refine pl_get (i := 10) rfl rfl HS0.out rfl (fun u hu => by (try dsimp only at hu); go_simp; rfl) (by simp only [List.setIfInBounds_toArray, List.set_cons_succ, List.set_cons_zero]; rfl) ?_
        | refine pl_skip (i := 10) rfl rfl HS0.out rfl (by simp only [List.setIfInBounds_toArray, List.set_cons_succ, List.set_cons_zero]; rfl) ?_
      first
        | refine pl_get (i := 11) rfl rfl HS0.out rfl (fun u hu => by (try dsimp only at hu); go_simp; rfl) (by simp only [List.setIfInBounds_toArray, List.set_cons_succ, List.set_cons_zero]; rfl) ?_
        | refine pl_skip (i := 11) rfl rfl HS0.out rfl (by simp only [List.setIfInBounds_toArray, List.set_cons_succ, List.set_cons_zero]; rfl) ?_
      first
        | refine pl_get (i := 12) rfl rfl HS0.out rfl (fun u hu => by (try dsimp only at hu); go_simp; rfl) (by simp only [List.setIfInBounds_toArray, List.set_cons_succ, List.set_cons_zero]; rfl) ?_
        | refine pl_skip (i := 12) rfl rfl HS0.out rfl (by simp only [List.setIfInBounds_toArray, List.set_cons_succ, List.set_cons_zero]; rfl) ?_
      first
        | refine pl_get (i := 13) rfl rfl HS0.out rfl (fun u hu => by (try dsimp only at hu); go_simp; rfl) (by simp only [List.setIfInBounds_toArray, List.set_cons_succ, List.set_cons_zero]; rfl) ?_
        | refine pl_skip (i := 13) rfl rfl HS0.out rfl (by simp only [List.setIfInBounds_toArray, List.set_cons_succ, List.set_cons_zero]; rfl) ?_
      first
        | refine pl_get (i := 14) rfl rfl HS0.out rfl (fun u hu => by (try dsimp only at hu); go_simp; rfl) (by simp only [List.setIfInBounds_toArray, List.set_cons_succ, List.set_cons_zero]; rfl) ?_
        | refine pl_skip (i := 14) rfl rfl HS0.out rfl (by simp only [List.setIfInBounds_toArray, List.set_cons_succ, List.set_cons_zero]; rfl) ?_
      first
        | refine pl_get (i := 15) rfl rfl HS0.out rfl (fun u hu => by (try dsimp only at hu); go_simp; rfl) (by simp only [List.setIfInBounds_toArray, List.set_cons_succ, List.set_cons_zero]; rfl) ?_
        | refine pl_skip (i := 15) rfl rfl HS0.out rfl (by simp only [List.setIfInBounds_toArray, List.set_cons_succ, List.set_cons_zero]; rfl) ?_
      refine pl_one (i := 16) rfl ?_
      go_wp2_with ((go_at_call 30; refine (less_no (y0, y1, y2) (s, sa, sr) Hnl.out _).mono ?_; rintro _ w3 ⟨rfl, k3⟩))
      have HS3 := Lib.hid (ks7 HS0.out k3)
      have Hk3 := Lib.hid (Hkd.out.trans k3)
      have Hb3 := Lib.hid (blk_keep Hbd.out k3 (fun h => h))
      clear k3
      refine pl_next (fun _ => HS3.out) ?_
      first
        | refine pl_get (i := 17) rfl rfl HS3.out rfl (fun u hu => by (try dsimp only at hu); go_simp; rfl) (by simp only [List.setIfInBounds_toArray, List.set_cons_succ, List.set_cons_zero]; rfl) ?_
        | refine pl_skip (i := 17) rfl rfl HS3.out rfl (by simp only [List.setIfInBounds_toArray, List.set_cons_succ, List.set_cons_zero]; rfl) ?_
      refine pl_done ?_
      go_wp2_with fail
      (try clear d0)
      (try clear d1)
      (try clear dl)
      (try clear x0)
      (try clear x1)
      (try clear x2)
      (try clear xl)
      (try clear r0)
      (try clear r1)
      (try clear r2)
      have TT := HT.out.keep0 Hk3.out
      have d0 := blk_cell TT.blk 0
      have d1 := blk_cell TT.blk 1
      have dl := blk_lt TT.blk
      have HTT := Lib.hid TT
      have x0 := blk_cell Hb3.out 0
      have x1 := blk_cell Hb3.out 1
      have x2 := blk_cell Hb3.out 2
      have xl := blk_lt Hb3.out
      simp at d0 d1 x0 x1 x2
      clear TT
      have hy := Hy.out
      obtain ⟨g, cg, hvv, hg1, hg2, hcx⟩ := HTT.out.own.cells mCells_len hy
      cases hvv
      have r0 := hcx 0 _ rfl
      have r1 := hcx 1 _ rfl
      have r2 := hcx 2 _ rfl
      simp only [Nat.add_zero] at r0
      simp at r0 r1 r2
      clear hcx
      clear hy
      rcases Hdiff.out with e0 | e0 | e0
      all_goals
        go_quiet (fail)
        have kz : Keep NoB w3 (w3.drewN nq) := (Keep.refl NoB w3).drewN nq
        have Hk4 := Lib.hid (Hk3.out.trans kz)
        have Hb4 := Lib.hid (blk_keep Hb3.out kz (fun h => h))
        generalize w3.drewN nq = wq at kz Hk4 Hb4 ⊢
        clear kz
        clear e0
        (try clear d0)
        (try clear d1)
        (try clear dl)
        (try clear x0)
        (try clear x1)
        (try clear x2)
        (try clear xl)
        (try clear r0)
        (try clear r1)
        (try clear r2)
        have TT := HT.out.keep0 Hk4.out
        have d0 := blk_cell TT.blk 0
        have d1 := blk_cell TT.blk 1
        have dl := blk_lt TT.blk
        have HTT := Lib.hid TT
        have x0 := blk_cell Hb4.out 0
        have x1 := blk_cell Hb4.out 1
        have x2 := blk_cell Hb4.out 2
        have xl := blk_lt Hb4.out
        simp at d0 d1 x0 x1 x2
        clear TT
        go_wp2_with fail
        go_quiet (fail)
        have kz : Keep NoB wq (wq.drewN nq) := (Keep.refl NoB wq).drewN nq
        have Hk5 := Lib.hid (Hk4.out.trans kz)
        have Hb5 := Lib.hid (blk_keep Hb4.out kz (fun h => h))
        generalize wq.drewN nq = wz at kz Hk5 Hb5 ⊢
        clear kz
        (try clear d0)
        (try clear d1)
        (try clear dl)
        (try clear x0)
        (try clear x1)
        (try clear x2)
        (try clear xl)
        (try clear r0)
        (try clear r1)
        (try clear r2)
        have TT := HT.out.keep0 Hk5.out
        have d0 := blk_cell TT.blk 0
        have d1 := blk_cell TT.blk 1
        have dl := blk_lt TT.blk
        have HTT := Lib.hid TT
        have x0 := blk_cell Hb5.out 0
        have x1 := blk_cell Hb5.out 1
        have x2 := blk_cell Hb5.out 2
        have xl := blk_lt Hb5.out
        simp at d0 d1 x0 x1 x2
        clear TT
        clear HTT
        have HTT := Lib.hid (HT.out.keep0 Hk5.out)
        go_wp2
        go_ret
        exact ⟨rfl, ⟨_, cap, HTT.out⟩, Hk5.out.none⟩

set_option maxHeartbeats 4000000 in
theorem rset_last_busy (rb B : Nat) (a : Option Addr) (cap : Nat) (limit : Int) (N : List MK) (s : ByteArray) (sa sr : Int) (w : World) (T : RT w B rb a cap limit N) (hN : N.length ≤ 1000) (p : Nat) (hpe : p = N.length) (hlt : ∀ i y, i < p → N[i]? = some y → mlt y (s, sa, sr)) (hb : limit ≤ N.length) :
    Calls Try.prog 17 #[.pointer (some ⟨rb, 0, none⟩), .agg #[.string s, .int .i64 sa, .int .i64 sr]] w (RNPost rb B limit false N w) := by
  have Hlt := Lib.hid hlt
  have hdb : decide (limit ≤ (N.length : Int)) = true := decide_eq_true hb
  clear hb hlt
  have HT := Lib.hid T
  clear T
  go_enter Try.func17, Try.ntmps17
  go_wp2_with fail
  have k0 : Keep NoB w (w.alloc (.cells #[.string s, .int .i64 sa, .int .i64 sr] 47)) := (Keep.refl NoB w).alloc _
  have b0 := blk_new w (.cells #[.string s, .int .i64 sa, .int .i64 sr] 47)
  generalize World.alloc w (.cells #[.string s, .int .i64 sa, .int .i64 sr] 47) = w0 at k0 b0 ⊢
  obtain ⟨xb, hxb⟩ : ∃ t, w.heap.size = t := ⟨_, rfl⟩
  rw [hxb] at b0 ⊢
  clear hxb
  go_loopw [5] (fun iv wr => ∃ k : Nat, k ≤ p ∧ iv = .int .i64 (k : Int) ∧ Keep NoB w wr ∧ wr.heap[xb]? = some (.cells #[.string s, .int .i64 sa, .int .i64 sr] 47 (0, 0))) (fun iv _ => N.length - (intOf iv).toNat)
  case atStart => exact ⟨0, Nat.zero_le _, rfl, k0, b0⟩
  case round =>
    clear k0 b0
    obtain ⟨k, hk, rfl, kr, br⟩ := hrel
    have TT := HT.out.keep0 kr
    have d0 := blk_cell TT.blk 0
    have d1 := blk_cell TT.blk 1
    have dl := blk_lt TT.blk
    have HTT := Lib.hid TT
    have x0 := blk_cell br 0
    have x1 := blk_cell br 1
    have x2 := blk_cell br 2
    have xl := blk_lt br
    have Hbr := Lib.hid br
    have Hkr := Lib.hid kr
    simp at d0 d1 x0 x1 x2
    clear TT br kr
    by_cases hkp : k < p
    · have hkl : k < N.length := by omega
      obtain ⟨y, hy⟩ : ∃ y, N[k]? = some y := ⟨_, List.getElem?_eq_getElem hkl⟩
      have hylt := Hlt.out k y hkp hy
      have Hyl := Lib.hid hylt
      obtain ⟨g, cg, hvv, hg1, hg2, hcx⟩ := HTT.out.own.cells mCells_len hy
      cases hvv
      have r0 := hcx 0 _ rfl
      have r1 := hcx 1 _ rfl
      have r2 := hcx 2 _ rfl
      simp only [Nat.add_zero] at r0
      obtain ⟨y0, y1, y2⟩ := y
      simp at r0 r1 r2
      clear hcx
      clear hy hylt
      go_wp2_with fail
      refine wp_region_pl (fun u => u.cell? ⟨rb, 0, none⟩ = some (.slice (some ⟨g, 0, none⟩) N.length cap) ∧ u.cell? ⟨g, k * 3, none⟩ = some (.string y0) ∧ u.cell? ⟨g, k * 3 + 1, none⟩ = some (.int .i64 y1) ∧ u.cell? ⟨g, k * 3 + 2, none⟩ = some (.int .i64 y2) ∧ u.cell? ⟨xb, 0, none⟩ = some (.string s) ∧ u.cell? ⟨xb, 1, none⟩ = some (.int .i64 sa) ∧ u.cell? ⟨xb, 2, none⟩ = some (.int .i64 sr)) [] (.rd 0 (.rd 1 (.rd 2 (.rd 3 (.rd 4 (.rd 5 (.rd 6 (.rd 7 (.rd 8 (.rd 9 (.rd 10 (.rd 11 (.rd 12 (.rd 13 (.rd 14 (.rd 15 (.one 16 (.rd 17 .done)))))))))))))))))) (by kernel_rfl) (by kernel_rfl) (by kernel_rfl) (by kernel_rfl) (by intro c b d v u h; cases d <;> exact h) ?_
      have kd0 : Keep NoB wr wr.drew := (Keep.refl NoB wr).drew
      have HS0 := Lib.hid (ks7 ⟨d0, r0, r1, r2, x0, x1, x2⟩ kd0)
      have Hkd := Lib.hid (Hkr.out.trans kd0)
      have Hbd := Lib.hid (blk_keep Hbr.out kd0 (fun h => h))
      clear kd0 d0 d1 r0 r1 r2 x0 x1 x2 HTT
      first
        | refine pl_get (i := 0) rfl rfl HS0.out rfl (fun u hu => by (try dsimp only at hu); go_simp; rfl) (by simp only [List.setIfInBounds_toArray, List.set_cons_succ, List.set_cons_zero]; rfl) ?_
        | refine pl_skip (i := 0) rfl rfl HS0.out rfl (by simp only [List.setIfInBounds_toArray, List.set_cons_succ, List.set_cons_zero]; rfl) ?_
      first
        | refine pl_get (i := 1) rfl rfl HS0.out rfl (fun u hu => by (try dsimp only at hu); go_simp; rfl) (by simp only [List.setIfInBounds_toArray, List.set_cons_succ, List.set_cons_zero]; rfl) ?_
        | refine pl_skip (i := 1) rfl rfl HS0.out rfl (by simp only [List.setIfInBounds_toArray, List.set_cons_succ, List.set_cons_zero]; rfl) ?_
      first
        | refine pl_get (i := 2) rfl rfl HS0.out rfl (fun u hu => by (try dsimp only at hu); go_simp; rfl) (by simp only [List.setIfInBounds_toArray, List.set_cons_succ, List.set_cons_zero]; rfl) ?_
        | refine pl_skip (i := 2) rfl rfl HS0.out rfl (by simp only [List.setIfInBounds_toArray, List.set_cons_succ, List.set_cons_zero]; rfl) ?_
      first
        | refine pl_get (i := 3) rfl rfl HS0.out rfl (fun u hu => by (try dsimp only at hu); go_simp; rfl) (by simp only [List.setIfInBounds_toArray, List.set_cons_succ, List.set_cons_zero]; rfl) ?_
        | refine pl_skip (i := 3) rfl rfl HS0.out rfl (by simp only [List.setIfInBounds_toArray, List.set_cons_succ, List.set_cons_zero]; rfl) ?_
      first
        | refine pl_get (i := 4) rfl rfl HS0.out rfl (fun u hu => by (try dsimp only at hu); go_simp; rfl) (by simp only [List.setIfInBounds_toArray, List.set_cons_succ, List.set_cons_zero]; rfl) ?_
        | refine pl_skip (i := 4) rfl rfl HS0.out rfl (by simp only [List.setIfInBounds_toArray, List.set_cons_succ, List.set_cons_zero]; rfl) ?_
      first
        | refine pl_get (i := 5) rfl rfl HS0.out rfl (fun u hu => by (try dsimp only at hu); go_simp; rfl) (by simp only [List.setIfInBounds_toArray, List.set_cons_succ, List.set_cons_zero]; rfl) ?_
        | refine pl_skip (i := 5) rfl rfl HS0.out rfl (by simp only [List.setIfInBounds_toArray, List.set_cons_succ, List.set_cons_zero]; rfl) ?_
      first
        | refine pl_get (i := 6) rfl rfl HS0.out rfl (fun u hu => by (try dsimp only at hu); go_simp; rfl) (by simp only [List.setIfInBounds_toArray, List.set_cons_succ, List.set_cons_zero]; rfl) ?_
        | refine pl_skip (i := 6) rfl rfl HS0.out rfl (by simp only [List.setIfInBounds_toArray, List.set_cons_succ, List.set_cons_zero]; rfl) ?_
      first
        | refine pl_get (i := 7) rfl rfl HS0.out rfl (fun u hu => by (try dsimp only at hu); go_simp; rfl) (by simp only [List.setIfInBounds_toArray, List.set_cons_succ, List.set_cons_zero]; rfl) ?_
        | refine pl_skip (i := 7) rfl rfl HS0.out rfl (by simp only [List.setIfInBounds_toArray, List.set_cons_succ, List.set_cons_zero]; rfl) ?_
      first
        | refine pl_get (i := 8) rfl rfl HS0.out rfl (fun u hu => by (try dsimp only at hu); go_simp; rfl) (by simp only [List.setIfInBounds_toArray, List.set_cons_succ, List.set_cons_zero]; rfl) ?_
        | refine pl_skip (i := 8) rfl rfl HS0.out rfl (by simp only [List.setIfInBounds_toArray, List.set_cons_succ, List.set_cons_zero]; rfl) ?_
      first
        | refine pl_get (i := 9) rfl rfl HS0.out rfl (fun u hu => by (try dsimp only at hu); go_simp; rfl) (by simp only [List.setIfInBounds_toArray, List.set_cons_succ, List.set_cons_zero]; rfl) ?_
        | refine pl_skip (i := 9) rfl rfl HS0.out rfl (by simp only [List.setIfInBounds_toArray, List.set_cons_succ, List.set_cons_zero]; rfl) ?_
      first
        | refine pl_get (i := 10) rfl rfl HS0.out rfl (fun u hu => by (try dsimp only at hu); go_simp; rfl) (by simp only [List.setIfInBounds_toArray, List.set_cons_succ, List.set_cons_zero]; rfl) ?_
        | refine pl_skip (i := 10) rfl rfl HS0.out rfl (by simp only [List.setIfInBounds_toArray, List.set_cons_succ, List.set_cons_zero]; rfl) ?_
      first
        | refine pl_get (i := 11) rfl rfl HS0.out rfl (fun u hu => by (try dsimp only at hu); go_simp; rfl) (by simp only [List.setIfInBounds_toArray, List.set_cons_succ, List.set_cons_zero]; rfl) ?_
        | refine pl_skip (i := 11) rfl rfl HS0.out rfl (by simp only [List.setIfInBounds_toArray, List.set_cons_succ, List.set_cons_zero]; rfl) ?_
      first
        | refine pl_get (i := 12) rfl rfl HS0.out rfl (fun u hu => by (try dsimp only at hu); go_simp; rfl) (by simp only [List.setIfInBounds_toArray, List.set_cons_succ, List.set_cons_zero]; rfl) ?_
        | refine pl_skip (i := 12) rfl rfl HS0.out rfl (by simp only [List.setIfInBounds_toArray, List.set_cons_succ, List.set_cons_zero]; rfl) ?_
      first
        | refine pl_get (i := 13) rfl rfl HS0.out rfl (fun u hu => by (try dsimp only at hu); go_simp; rfl) (by simp only [List.setIfInBounds_toArray, List.set_cons_succ, List.set_cons_zero]; rfl) ?_
        | refine pl_skip (i := 13) rfl rfl HS0.out rfl (by simp only [List.setIfInBounds_toArray, List.set_cons_succ, List.set_cons_zero]; rfl) ?_
      first
        | refine pl_get (i := 14) rfl rfl HS0.out rfl (fun u hu => by (try dsimp only at hu); go_simp; rfl) (by simp only [List.setIfInBounds_toArray, List.set_cons_succ, List.set_cons_zero]; rfl) ?_
        | refine pl_skip (i := 14) rfl rfl HS0.out rfl (by simp only [List.setIfInBounds_toArray, List.set_cons_succ, List.set_cons_zero]; rfl) ?_
      first
        | refine pl_get (i := 15) rfl rfl HS0.out rfl (fun u hu => by (try dsimp only at hu); go_simp; rfl) (by simp only [List.setIfInBounds_toArray, List.set_cons_succ, List.set_cons_zero]; rfl) ?_
        | refine pl_skip (i := 15) rfl rfl HS0.out rfl (by simp only [List.setIfInBounds_toArray, List.set_cons_succ, List.set_cons_zero]; rfl) ?_
      refine pl_one (i := 16) rfl ?_
      go_wp2_with ((go_at_call 30; refine (less_yes (y0, y1, y2) (s, sa, sr) Hyl.out _).mono ?_; rintro _ w3 ⟨rfl, k3⟩))
      have HS3 := Lib.hid (ks7 HS0.out k3)
      have Hk3 := Lib.hid (Hkd.out.trans k3)
      have Hb3 := Lib.hid (blk_keep Hbd.out k3 (fun h => h))
      clear k3
      refine pl_next (fun _ => HS3.out) ?_
      first
        | refine pl_get (i := 17) rfl rfl HS3.out rfl (fun u hu => by (try dsimp only at hu); go_simp; rfl) (by simp only [List.setIfInBounds_toArray, List.set_cons_succ, List.set_cons_zero]; rfl) ?_
        | refine pl_skip (i := 17) rfl rfl HS3.out rfl (by simp only [List.setIfInBounds_toArray, List.set_cons_succ, List.set_cons_zero]; rfl) ?_
      refine pl_done ?_
      go_wp2_with fail
      go_roundw
      case rel => exact ⟨k + 1, hkp, by go_num, Hk3.out, Hb3.out⟩
      case measure => simp [intOf]; omega
    · obtain rfl : k = p := by omega
      have hdk : decide ((k : Int) < (N.length : Int)) = false := decide_eq_false (by omega)
      have hkle : k ≤ N.length := by omega
      go_wp2_with fail
      go_quiet (fail)
      have kz : Keep NoB wr (wr.drewN nq) := (Keep.refl NoB wr).drewN nq
      have Hk3 := Lib.hid (Hkr.out.trans kz)
      have Hb3 := Lib.hid (blk_keep Hbr.out kz (fun h => h))
      generalize wr.drewN nq = w3 at kz Hk3 Hb3 ⊢
      clear kz
      (try clear d0)
      (try clear d1)
      (try clear dl)
      (try clear x0)
      (try clear x1)
      (try clear x2)
      (try clear xl)
      (try clear r0)
      (try clear r1)
      (try clear r2)
      have TT := HT.out.keep0 Hk3.out
      have d0 := blk_cell TT.blk 0
      have d1 := blk_cell TT.blk 1
      have dl := blk_lt TT.blk
      have HTT := Lib.hid TT
      have x0 := blk_cell Hb3.out 0
      have x1 := blk_cell Hb3.out 1
      have x2 := blk_cell Hb3.out 2
      have xl := blk_lt Hb3.out
      simp at d0 d1 x0 x1 x2
      clear TT
      go_wp2_with fail
      go_quiet (fail)
      have kz : Keep NoB w3 (w3.drewN nq) := (Keep.refl NoB w3).drewN nq
      have Hk4 := Lib.hid (Hk3.out.trans kz)
      have Hb4 := Lib.hid (blk_keep Hb3.out kz (fun h => h))
      generalize w3.drewN nq = wq at kz Hk4 Hb4 ⊢
      clear kz
      (try clear d0)
      (try clear d1)
      (try clear dl)
      (try clear x0)
      (try clear x1)
      (try clear x2)
      (try clear xl)
      (try clear r0)
      (try clear r1)
      (try clear r2)
      have TT := HT.out.keep0 Hk4.out
      have d0 := blk_cell TT.blk 0
      have d1 := blk_cell TT.blk 1
      have dl := blk_lt TT.blk
      have HTT := Lib.hid TT
      have x0 := blk_cell Hb4.out 0
      have x1 := blk_cell Hb4.out 1
      have x2 := blk_cell Hb4.out 2
      have xl := blk_lt Hb4.out
      simp at d0 d1 x0 x1 x2
      clear TT
      go_wp2_with fail
      go_quiet (fail)
      have kz : Keep NoB wq (wq.drewN nq) := (Keep.refl NoB wq).drewN nq
      have Hk5 := Lib.hid (Hk4.out.trans kz)
      have Hb5 := Lib.hid (blk_keep Hb4.out kz (fun h => h))
      generalize wq.drewN nq = wz at kz Hk5 Hb5 ⊢
      clear kz
      (try clear d0)
      (try clear d1)
      (try clear dl)
      (try clear x0)
      (try clear x1)
      (try clear x2)
      (try clear xl)
      (try clear r0)
      (try clear r1)
      (try clear r2)
      have TT := HT.out.keep0 Hk5.out
      have d0 := blk_cell TT.blk 0
      have d1 := blk_cell TT.blk 1
      have dl := blk_lt TT.blk
      have HTT := Lib.hid TT
      have x0 := blk_cell Hb5.out 0
      have x1 := blk_cell Hb5.out 1
      have x2 := blk_cell Hb5.out 2
      have xl := blk_lt Hb5.out
      simp at d0 d1 x0 x1 x2
      clear TT
      clear HTT
      have HTT := Lib.hid (HT.out.keep0 Hk5.out)
      go_wp2
      go_ret
      exact ⟨rfl, ⟨_, cap, HTT.out⟩, Hk5.out.none⟩
end Go.Proofs.Ytgangbkompkidaa
