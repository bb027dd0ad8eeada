/- What Drop and Double of package link come to. -/
import Derived.Test.YtbaojfjabhgohaaLinkT
namespace Go.Proofs.Ytbaojfjabhgohaa
open Go Go.RowKit Go.Maps


def keepP (who : Int) (x : HE) : Bool := x.t != who

set_option maxHeartbeats 4000000 in
theorem drop_any (B nb : Nat) (a : Option Addr) (cap : Nat) (room sent : Int) (N : List HE) (who : Int) (w : World) (T : Net w B nb a cap room sent N) (hB : B ≤ w.heap.size) (hN : N.length ≤ 1000000) (v : Int) (hv : (N.length : Int) - ((N.filter (keepP who)).length : Int) = v) :
    Calls Try.prog 10 #[.pointer (some ⟨nb, 0, none⟩), .int .i64 who] w (NetPost B nb room sent (N.filter (keepP who)) (.int .i64 v) (OneB nb) w) := by
  have c0 := blk_cell T.blk 0
  have c1 := blk_cell T.blk 1
  have c2 := blk_cell T.blk 2
  have hlt := blk_lt T.blk
  have HT := Lib.hid T
  have Hblk := Lib.hid T.blk
  clear T
  simp at c0 c1 c2
  obtain ⟨Mf, hMf⟩ : ∃ l, N.filter (keepP who) = l := ⟨_, rfl⟩
  rw [hMf] at hv
  have hle : Mf.length ≤ N.length := by rw [← hMf]; exact List.length_filter_le _ _
  have Hv := Lib.hid hv
  have HMf := Lib.hid hMf
  clear hv hMf
  go_enter Try.func10, Try.ntmps10
  go_wp2_with fail
  go_loopw [5, 16] (fun vv j wx => ∃ (jn : Nat) (M : List HE) (am : Option Addr) (cm : Nat), jn ≤ N.length ∧ j = .int .i64 jn ∧ vv = .slice am M.length cm ∧ M.length ≤ jn ∧ (N.take jn).filter (keepP who) = M ∧ Row wx w.heap.size 70 4 hCells (.slice am M.length cm) M ∧ Keep NoB w wx) (fun _ j _ => N.length - (intOf j).toNat)
  case atStart => exact ⟨0, [], none, 0, Nat.zero_le _, rfl, rfl, Nat.le_refl _, by simp, Row.nil _ _ _ _ _, Keep.refl _ _⟩
  case round =>
    obtain ⟨jn, M, am, cm, hj, rfl, rfl, hM, hfl, RM, hk⟩ := hrel
    have Hfl := Lib.hid hfl
    clear hfl
    by_cases hjl : jn < N.length
    · obtain ⟨x, hx⟩ : ∃ x, N[jn]? = some x := ⟨_, List.getElem?_eq_getElem hjl⟩
      obtain ⟨g, c', hvv, hg1, hg2, hcx⟩ := (HT.out.row.keep hk (fun _ _ h => h)).cells hCells_len hx
      cases hvv
      obtain ⟨xf, xt, xa, xc, xn, xl⟩ := x
      have m0 := hcx 0 _ rfl
      have m1 := hcx 1 _ rfl
      have m2 := hcx 2 _ rfl
      have m3 := hcx 3 _ rfl
      simp only [Nat.add_zero, HE.v] at m0 m1 m2 m3
      have Hx := Lib.hid hx
      have sk := hk.size
      clear hcx hx
      by_cases hto : xt = who
      · have hd : (xt != who) = false := by simp [hto]
        have hfl' : (N.take (jn + 1)).filter (keepP who) = M := by rw [List.take_add_one, Hx.out, List.filter_append, Hfl.out]; simp [keepP, hto]
        have Hfl' := Lib.hid hfl'
        clear hfl' hto
        go_wp2_with fail
        go_roundw
        case rel => exact ⟨jn + 1, M, am, cm, hjl, by go_num, rfl, by omega, Hfl'.out, RM.alloc _, hk.alloc _⟩
        case measure => simp [intOf]; omega
      · have hd : (xt != who) = true := by simp [hto]
        obtain ⟨M', hM'⟩ : ∃ l, M ++ [⟨xf, xt, xa, xc, xn, xl⟩] = l := ⟨_, rfl⟩
        have hM2 : M'.length ≤ jn + 1 := by rw [← hM']; simp; omega
        have hfl' : (N.take (jn + 1)).filter (keepP who) = M' := by rw [List.take_add_one, Hx.out, List.filter_append, Hfl.out, ← hM']; simp [keepP, hto]
        have Hfl' := Lib.hid hfl'
        have HM' := Lib.hid hM'
        clear hfl' hto hM'
        go_wp2_with (at_builtin; refine wpList_row_one rfl (.tmp 25) (.tmp 27) 60 rfl Try.underlying60 info70' (by kernel_rfl) (by decide) (by decide) rfl ((RM.alloc _).alloc _) hCells_len ⟨xf, xt, xa, xc, xn, xl⟩ rfl (c := #[.int .i64 xf, .int .i64 xt, .slice xa xl.length xc, .bool xn]) (t' := 70) (f := (0, 0)) (by have := blk_new (wr.alloc (.cells #[.int .i64 xf, .int .i64 xt, .slice xa xl.length xc, .bool xn] 70)) (.cells #[.int .i64 xf, .int .i64 xt, .slice xa xl.length xc, .bool xn] 70); simpa using this) rfl (hCells_one _) (by omega) (by simp; omega) HM'.out ?_; intro a4 c4 w4 O4 k4)
        have K4 : Keep NoB w w4 := ((hk.alloc _).alloc _).trans' k4 (fun i hi e => by have := RM.fresh i e; omega)
        clear k4 RM hk m0 m1 m2 m3
        go_wp2_with fail
        go_roundw
        case rel => exact ⟨jn + 1, M', a4, c4, hjl, by go_num, rfl, hM2, Hfl'.out, O4, K4⟩
        case measure => simp [intOf]; omega
    · obtain rfl : M = Mf := by rw [← Hfl.out, ← HMf.out, List.take_of_length_le (by omega)]
      have TT := HT.out.keep0 hk
      have e0 := blk_cell TT.blk 0
      have e1 := blk_cell TT.blk 1
      have e2 := blk_free TT.blk 1
      have e3 := blk_lt TT.blk
      have Hb := Lib.hid TT.blk
      have HTT := Lib.hid TT
      simp at e0 e1
      have hv2 : (N.length : Int) - (M.length : Int) = v := Hv.out
      have Hv2 := Lib.hid hv2
      clear TT hv2
      go_wp2_with fail
      go_ret
      have K6 : Keep (OneB nb) wr (wr.setCell ⟨nb, 1, none⟩ (.slice am M.length cm)) := Keep.setCell (S := OneB nb) (p := ⟨nb, 1, none⟩) (Keep.refl _ wr) (Or.inr rfl) _
      have b6 := blk_setCell (i := 1) Hb.out (.slice am M.length cm)
      refine ⟨am, cm, by rw [← Hv2.out]; rfl, ?_, hk.none.trans K6⟩
      have hsub : (N.filter (keepP who)).Sublist N := List.filter_sublist
      rw [HMf.out] at hsub ⊢
      refine ⟨by simpa using b6, (RM.mono hB).keep K6 (fun g hg e => RM.ne Hb.out (by decide) g hg e), fun y hy => ?_, HT.out.apart.sublist hsub⟩
      exact ⟨(HTT.out.each y (hsub.subset hy)).1.keep K6 (fun g hg e => (HTT.out.ne1 (hsub.subset hy) g hg).1 e), (HTT.out.each y (hsub.subset hy)).2⟩
end Go.Proofs.Ytbaojfjabhgohaa
