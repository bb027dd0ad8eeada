/- The reference's Without. -/
import Derived.Test.YtgangbkompkidaaMarkerY
namespace Go.Proofs.Ytgangbkompkidaa
open Go Go.RowKit Go.Maps Go.Sort

theorem gtake_one {α : Type} {N : List α} {k : Nat} {x : α} (hx : N[k]? = some x) : N.take (k + 1) = N.take k ++ [x] := by
  obtain ⟨h, e⟩ := List.getElem?_eq_some_iff.1 hx
  rw [List.take_succ_eq_append_getElem h, e]
def leftG (how : Nat) (m : MK) (N : List MK) : List MK := N.filter (fun x => !goesP how m x)
theorem left_yes {how : Nat} {m : MK} {N : List MK} {k : Nat} {x : MK} (hx : N[k]? = some x) (h : goesP how m x = true) : leftG how m (N.take (k + 1)) = leftG how m (N.take k) := by
  unfold leftG
  rw [gtake_one hx, List.filter_append]
  simp [h]
theorem left_no {how : Nat} {m : MK} {N : List MK} {k : Nat} {x : MK} (hx : N[k]? = some x) (h : goesP how m x = false) : leftG how m (N.take (k + 1)) = leftG how m (N.take k) ++ [x] := by
  unfold leftG
  rw [gtake_one hx, List.filter_append]
  simp [h]

structure GS (wy wr : World) (how : Nat) (m : MK) (N : List MK) (k : Nat) (o : Value) : Prop where
  st : ∃ (W : List MK) (a' : Option Addr) (c' : Nat), o = .slice a' W.length c' ∧ Own wr wy.heap.size 47 3 mCells (.slice a' W.length c') W ∧ W.length ≤ k ∧ leftG how m (N.take k) = W

def WPost (rb B : Nat) (limit : Int) (n : Int) (N : List MK) (w : World) (e : Ending) (w' : World) : Prop :=
  e = .returned (.int .i64 n) ∧ (∃ a cap, RT w' B rb a cap limit N) ∧ Keep (OneB rb) w w'



set_option maxHeartbeats 4000000 in
theorem rwithout_any (rb B : Nat) (a : Option Addr) (cap : Nat) (limit : Int) (N : List MK) (x : MK) (how : Nat) (hh : how = 0 ∨ how = 1 ∨ how = 2) (w : World) (T : RT w B rb a cap limit N) (hB : B ≤ w.heap.size) (hN : N.length ≤ 1000) (N' : List MK) (hN' : leftG how x N = N') :
    Calls Try.prog 18 #[.pointer (some ⟨rb, 0, none⟩), .agg (mCells x).toArray, .int .i64 (how : Int)] w (WPost rb B limit ((N.length : Int) - N'.length) N' w) := by
  obtain ⟨s, sa, sr⟩ := x
  show Calls Try.prog 18 #[.pointer (some ⟨rb, 0, none⟩), .agg #[.string s, .int .i64 sa, .int .i64 sr], .int .i64 (how : Int)] w _
  have hle : N'.length ≤ N.length := by rw [← hN']; exact List.length_filter_le _ _
  have Hle := Lib.hid hle
  have HN' := Lib.hid hN'
  have HT0 := Lib.hid T
  have Hh := Lib.hid hh
  clear T hN' hle hh
  go_enter Try.func18, Try.ntmps18
  go_wp2_with fail
  have k0 : Keep NoB w ((w.alloc (.cells #[.string s, .int .i64 sa, .int .i64 sr] 47)).alloc (.cells #[] 47)) := ((Keep.refl NoB w).alloc _).alloc _
  have k00 : Keep NoB w (w.alloc (.cells #[.string s, .int .i64 sa, .int .i64 sr] 47)) := (Keep.refl NoB w).alloc _
  have b0 := blk_new w (.cells #[.string s, .int .i64 sa, .int .i64 sr] 47)
  obtain ⟨xb, hxb⟩ : ∃ t, w.heap.size = t := ⟨_, rfl⟩
  have hwy : w.heap.size + 1 = (w.alloc (.cells #[.string s, .int .i64 sa, .int .i64 sr] 47)).heap.size := by simp
  generalize World.alloc w (.cells #[.string s, .int .i64 sa, .int .i64 sr] 47) = wy at k0 k00 b0 hwy ⊢
  rw [hxb] at b0 hwy ⊢
  rw [hwy]
  clear hwy
  have HO0 := Lib.hid (Own.empty wy (Nat.le_refl _) 47 3 mCells)
  have HT := Lib.hid (HT0.out.keep0 k00)
  have Hbox := Lib.hid b0
  have HK1 := Lib.hid k00
  have hBy := Nat.le_trans hB k00.size
  clear k0 k00 b0 hxb HT0
  go_loopw [7, 8] (fun o iv wr => ∃ k : Nat, k ≤ N.length ∧ iv = .int .i64 (k : Int) ∧ GS wy wr how (s, sa, sr) N k o ∧ Keep NoB wy wr) (fun _ iv _ => N.length - (intOf iv).toNat)
  case atStart => exact ⟨0, Nat.zero_le _, rfl, ⟨⟨[], _, 0, rfl, HO0.out, Nat.le_refl _, rfl⟩⟩, (Keep.refl NoB wy).alloc _⟩
  case round =>
    clear HO0
    obtain ⟨k, hk, rfl, ⟨⟨W, a', c', rfl, O', hWk, hW⟩⟩, kr⟩ := hrel
    have HO := Lib.hid O'
    have Hkr := Lib.hid kr
    clear O'
    by_cases hkn : k < N.length
    · obtain ⟨y, hy⟩ : ∃ y, N[k]? = some y := ⟨_, List.getElem?_eq_getElem hkn⟩
      obtain ⟨v, hv⟩ : ∃ v, goesP how (s, sa, sr) y = v := ⟨_, rfl⟩
      have Hv := Lib.hid hv
      have HW2 := Lib.hid (show leftG how (s, sa, sr) (N.take (k + 1)) = (if v = true then W else W ++ [y]) from by
        cases v with
        | true => rw [left_yes hy hv, hW]; rfl
        | false => rw [left_no hy hv, hW]; rfl)
      obtain ⟨y0, y1, y2⟩ := y
      have Hy := Lib.hid hy
      clear hv hW hy
      have TT := HT.out.keep0 Hkr.out
      have d0 := blk_cell TT.blk 0
      have dl := blk_lt TT.blk
      have HTT := Lib.hid TT
      have bb := blk_keep Hbox.out Hkr.out (fun h => h)
      have x0 := blk_cell bb 0
      have x1 := blk_cell bb 1
      have x2 := blk_cell bb 2
      have xl := blk_lt bb
      simp at d0 x0 x1 x2
      clear TT bb
      obtain ⟨g, cg, hvv, hg1, hg2, hcx⟩ := HTT.out.own.cells mCells_len Hy.out
      cases hvv
      have r0 := hcx 0 _ rfl
      have r1 := hcx 1 _ rfl
      have r2 := hcx 2 _ rfl
      simp only [Nat.add_zero] at r0
      simp at r0 r1 r2
      clear hcx
      clear kr
      go_wp2_with fail
      refine wp_region_pl (fun u => u.cell? ⟨rb, 0, none⟩ = some (.slice (some ⟨g, 0, none⟩) N.length cap) ∧ u.cell? ⟨g, k * 3, none⟩ = some (.string y0) ∧ u.cell? ⟨g, k * 3 + 1, none⟩ = some (.int .i64 y1) ∧ u.cell? ⟨g, k * 3 + 2, none⟩ = some (.int .i64 y2) ∧ u.cell? ⟨xb, 0, none⟩ = some (.string s) ∧ u.cell? ⟨xb, 1, none⟩ = some (.int .i64 sa) ∧ u.cell? ⟨xb, 2, none⟩ = some (.int .i64 sr)) [] (.rd 0 (.rd 1 (.rd 2 (.rd 3 (.rd 4 (.rd 5 (.rd 6 (.rd 7 (.rd 8 (.one 9 (.rd 10 .done))))))))))) (by kernel_rfl) (by kernel_rfl) (by kernel_rfl) (by kernel_rfl) (by intro c b d v u h; cases d <;> exact h) ?_
      have kd0 : Keep NoB wr wr.drew := (Keep.refl NoB wr).drew
      have HS0 := Lib.hid (ks7 ⟨d0, r0, r1, r2, x0, x1, x2⟩ kd0)
      have Hkd := Lib.hid (Hkr.out.trans kd0)
      have HOd := Lib.hid (HO.out.keep kd0 (fun _ _ h => h))
      clear kd0 d0 r0 r1 r2 x0 x1 x2 HTT HO
      first
        | refine pl_get (i := 0) rfl rfl HS0.out rfl (fun u hu => by (try dsimp only at hu); go_simp; rfl) (by simp only [List.setIfInBounds_toArray, List.set_cons_succ, List.set_cons_zero]; rfl) ?_
        | refine pl_skip (i := 0) rfl rfl HS0.out rfl (by simp only [List.setIfInBounds_toArray, List.set_cons_succ, List.set_cons_zero]; rfl) ?_
      first
        | refine pl_get (i := 1) rfl rfl HS0.out rfl (fun u hu => by (try dsimp only at hu); go_simp; rfl) (by simp only [List.setIfInBounds_toArray, List.set_cons_succ, List.set_cons_zero]; rfl) ?_
        | refine pl_skip (i := 1) rfl rfl HS0.out rfl (by simp only [List.setIfInBounds_toArray, List.set_cons_succ, List.set_cons_zero]; rfl) ?_
      first
        | refine pl_get (i := 2) rfl rfl HS0.out rfl (fun u hu => by (try dsimp only at hu); go_simp; rfl) (by simp only [List.setIfInBounds_toArray, List.set_cons_succ, List.set_cons_zero]; rfl) ?_
        | refine pl_skip (i := 2) rfl rfl HS0.out rfl (by simp only [List.setIfInBounds_toArray, List.set_cons_succ, List.set_cons_zero]; rfl) ?_
      first
        | refine pl_get (i := 3) rfl rfl HS0.out rfl (fun u hu => by (try dsimp only at hu); go_simp; rfl) (by simp only [List.setIfInBounds_toArray, List.set_cons_succ, List.set_cons_zero]; rfl) ?_
        | refine pl_skip (i := 3) rfl rfl HS0.out rfl (by simp only [List.setIfInBounds_toArray, List.set_cons_succ, List.set_cons_zero]; rfl) ?_
      first
        | refine pl_get (i := 4) rfl rfl HS0.out rfl (fun u hu => by (try dsimp only at hu); go_simp; rfl) (by simp only [List.setIfInBounds_toArray, List.set_cons_succ, List.set_cons_zero]; rfl) ?_
        | refine pl_skip (i := 4) rfl rfl HS0.out rfl (by simp only [List.setIfInBounds_toArray, List.set_cons_succ, List.set_cons_zero]; rfl) ?_
      first
        | refine pl_get (i := 5) rfl rfl HS0.out rfl (fun u hu => by (try dsimp only at hu); go_simp; rfl) (by simp only [List.setIfInBounds_toArray, List.set_cons_succ, List.set_cons_zero]; rfl) ?_
        | refine pl_skip (i := 5) rfl rfl HS0.out rfl (by simp only [List.setIfInBounds_toArray, List.set_cons_succ, List.set_cons_zero]; rfl) ?_
      first
        | refine pl_get (i := 6) rfl rfl HS0.out rfl (fun u hu => by (try dsimp only at hu); go_simp; rfl) (by simp only [List.setIfInBounds_toArray, List.set_cons_succ, List.set_cons_zero]; rfl) ?_
        | refine pl_skip (i := 6) rfl rfl HS0.out rfl (by simp only [List.setIfInBounds_toArray, List.set_cons_succ, List.set_cons_zero]; rfl) ?_
      first
        | refine pl_get (i := 7) rfl rfl HS0.out rfl (fun u hu => by (try dsimp only at hu); go_simp; rfl) (by simp only [List.setIfInBounds_toArray, List.set_cons_succ, List.set_cons_zero]; rfl) ?_
        | refine pl_skip (i := 7) rfl rfl HS0.out rfl (by simp only [List.setIfInBounds_toArray, List.set_cons_succ, List.set_cons_zero]; rfl) ?_
      first
        | refine pl_get (i := 8) rfl rfl HS0.out rfl (fun u hu => by (try dsimp only at hu); go_simp; rfl) (by simp only [List.setIfInBounds_toArray, List.set_cons_succ, List.set_cons_zero]; rfl) ?_
        | refine pl_skip (i := 8) rfl rfl HS0.out rfl (by simp only [List.setIfInBounds_toArray, List.set_cons_succ, List.set_cons_zero]; rfl) ?_
      refine pl_one (i := 9) rfl ?_
      go_wp2_with ((go_at_call 31; refine (goes_any how Hh.out (y0, y1, y2) (s, sa, sr) _ v Hv.out).mono ?_; rintro _ w3 ⟨rfl, k3⟩))
      have HS3 := Lib.hid (ks7 HS0.out k3)
      have Hk3 := Lib.hid (Hkd.out.trans k3)
      have HO3 := Lib.hid (HOd.out.keep k3 (fun _ _ h => h))
      clear k3 HS0 Hkd HOd Hkr
      refine pl_next (fun _ => HS3.out) ?_
      first
        | refine pl_get (i := 10) rfl rfl HS3.out rfl (fun u hu => by (try dsimp only at hu); go_simp; rfl) (by simp only [List.setIfInBounds_toArray, List.set_cons_succ, List.set_cons_zero]; rfl) ?_
        | refine pl_skip (i := 10) rfl rfl HS3.out rfl (by simp only [List.setIfInBounds_toArray, List.set_cons_succ, List.set_cons_zero]; rfl) ?_
      refine pl_done ?_
      cases v
      · obtain ⟨W2, hW2⟩ : ∃ l, W ++ [(y0, y1, y2)] = l := ⟨_, rfl⟩
        have HW2l := Lib.hid (show W2.length = W.length + 1 from by rw [← hW2]; simp)
        have HW2' := Lib.hid (show leftG how (s, sa, sr) (N.take (k + 1)) = W2 from by rw [← hW2]; exact HW2.out)
        have HHW2 := Lib.hid hW2
        clear hW2 HW2 dl xl
        have TT := HT.out.keep0 Hk3.out
        have d0 := blk_cell TT.blk 0
        have dl := blk_lt TT.blk
        have HTT := Lib.hid TT
        have bb := blk_keep Hbox.out Hk3.out (fun h => h)
        have x0 := blk_cell bb 0
        have x1 := blk_cell bb 1
        have x2 := blk_cell bb 2
        have xl := blk_lt bb
        simp at d0 x0 x1 x2
        clear TT bb
        obtain ⟨g, cg, hvv, hg1, hg2, hcx⟩ := HTT.out.own.cells mCells_len Hy.out
        cases hvv
        have r0 := hcx 0 _ rfl
        have r1 := hcx 1 _ rfl
        have r2 := hcx 2 _ rfl
        simp only [Nat.add_zero] at r0
        simp at r0 r1 r2
        clear hcx
        go_wp2_with (first
          | (at_builtin
             refine wpList_append_one (B := wy.heap.size) rfl (.tmp 31) (.tmp 39) 44 rfl Try.underlying44 info47' (by kernel_rfl) (by decide) (by decide) rfl (HO3.out.alloc _) mCells_len (y0, y1, y2) rfl (c := #[.string y0, .int .i64 y1, .int .i64 y2]) (t' := 47) (f := (0, 0)) (blk_new w3 _) rfl (mCells_one _) (by omega) (by have := Hk3.out.size; simp; omega) HHW2.out ?_
             intro a4 c4 w4 O4 k4
             have K4 : Keep NoB wy w4 := (HO3.out.alloc _).knob (Hk3.out.alloc _) k4
             have HO4 := Lib.hid O4
             have HK4 := Lib.hid K4
             clear k4 O4 K4))
        go_roundw
        case rel => exact ⟨k + 1, hkn, by go_num, ⟨⟨W2, a4, c4, rfl, HO4.out, by have := HW2l.out; omega, HW2'.out⟩⟩, HK4.out⟩
        case measure => simp [intOf]; omega
      · have HW2' := Lib.hid (show leftG how (s, sa, sr) (N.take (k + 1)) = W from HW2.out)
        clear HW2
        go_wp2_with fail
        go_roundw
        case rel => exact ⟨k + 1, hkn, by go_num, ⟨⟨W, a', c', rfl, HO3.out, by omega, HW2'.out⟩⟩, Hk3.out⟩
        case measure => simp [intOf]; omega
    · have hd : decide ((k : Int) < (N.length : Int)) = false := decide_eq_false (by omega)
      rw [List.take_of_length_le (by omega)] at hW
      have hWN : N' = W := by rw [← HN'.out, hW]
      subst hWN
      have hle := Hle.out
      have hwr : IntKind.i64.wrap ((N.length : Int) - (N'.length : Int)) = (N.length : Int) - (N'.length : Int) := by rw [IntKind.wrap_i64]; omega
      have TT := HT.out.keep0 kr
      have d0 := blk_cell TT.blk 0
      have dl := blk_lt TT.blk
      have df := blk_free TT.blk 0
      have HTT := Lib.hid TT
      simp at d0
      clear TT hW
      go_wp2
      go_ret
      have b9 := blk_setCell (i := 0) HTT.out.blk (.slice a' N'.length c')
      have k9 : Keep (OneB rb) wr (wr.setCell ⟨rb, 0, none⟩ (.slice a' N'.length c')) := (Keep.refl (OneB rb) wr).setCell (p := ⟨rb, 0, none⟩) (Or.inr rfl) _
      have O9 := (HO.out.mono hBy).keep k9 (fun g hg e => HO.out.ne HTT.out.blk (by decide) g hg e)
      simp at b9
      exact ⟨rfl, ⟨a', c', ⟨b9, O9⟩⟩, ((HK1.out.trans kr).none).trans k9⟩
end Go.Proofs.Ytgangbkompkidaa
