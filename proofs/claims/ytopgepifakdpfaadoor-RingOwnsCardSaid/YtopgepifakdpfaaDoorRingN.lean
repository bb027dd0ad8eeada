/- With, Without of package ring; the document's example. -/
import Derived.Test.YtopgepifakdpfaaDoorRingP
namespace Go.Proofs.YtopgepifakdpfaaDoor
open Go Go.RowKit Go.Maps Go.Sort
set_option maxRecDepth 100000

def NewP (N : List BA) (w : World) (e : Ending) (w' : World) : Prop := ∃ (rb : Nat) (L : List BA), e = .returned (.pointer (some ⟨rb, 0, none⟩)) ∧ Nds N L ∧ Rg w' w.heap.size rb L ∧ Keep NoB w w'
theorem with_any (w : World) (B rb : Nat) (L : List BA) (hR : Rg w B rb L) (hL : L.length ≤ 8) (x : BA) :
    Calls Tryd.prog 17 #[.pointer (some ⟨rb, 0, none⟩), .string x] w (NewP (L ++ [x]) w) := by
  go_enter Tryd.func17, Tryd.ntmps17
  go_wp2_with fail
  refine (nodes_any w B rb L hR hL).mono ?_
  rintro _ w1 ⟨a, c, rfl, O, k1⟩
  obtain ⟨N', hN'⟩ : ∃ l, L ++ [x] = l := ⟨_, rfl⟩
  have hl' : N'.length ≤ 9 := by rw [← hN']; simp; omega
  have HN' := Lib.hid hN'
  have HO := Lib.hid O
  have Hk1 := Lib.hid k1
  have hws : w.heap.size ≤ w1.heap.size := k1.size
  rw [hN']
  clear hN' O k1 hR
  go_wp2_with (at_builtin; refine wpList_append_one (B := w.heap.size) rfl (.tmp 6) (.tmp 8) 22 rfl Tryd.underlying22 info9' (by kernel_rfl) (by decide) (by decide) rfl (HO.out.alloc (.cells #[.string x] 9)) cS_len x rfl (c := #[.string x]) (t' := 9) (f := (0, 0)) (blk_new w1 _) rfl (cS_one _) (by omega) (by simp; omega) HN'.out ?_; intro a4 c4 w4 O4 k4; have HO4 := Lib.hid O4; have Hk4 := Lib.hid (Hk1.out.trans' ((((Keep.refl NoB w1).alloc (.cells #[.string x] 9)).none).trans k4) (fun i hi e => by have := HO.out.fresh i e; omega) : Keep NoB w w4); clear O4 k4)
  refine (new_any w4 a4 c4 N' (rds_own HO4.out) (by omega)).mono ?_
  rintro _ w5 ⟨rb', L', rfl, hNd, hRg, k5⟩
  have HX := Lib.hid (show Nds N' L' ∧ Rg w5 w.heap.size rb' L' ∧ Keep NoB w w5 from ⟨hNd, hRg.mono Hk4.out.size, Hk4.out.trans k5⟩)
  clear hNd hRg k5
  go_wp2_with fail
  go_ret
  exact ⟨rb', L', rfl, by rw [HN'.out]; exact HX.out.1, HX.out.2.1, HX.out.2.2⟩
theorem wo_take {L : List BA} {k : Nat} {y x : BA} (h : L[k]? = some y) : wo x (L.take (k + 1)) = if y = x then wo x (L.take k) else wo x (L.take k) ++ [y] := by
  obtain ⟨hl, e⟩ := List.getElem?_eq_some_iff.1 h
  unfold wo
  rw [List.take_succ_eq_append_getElem hl, e, List.filter_append]
  split
  · rename_i hy
    rw [List.filter_cons_of_neg (by simpa using hy)]
    simp
  · rename_i hy
    rw [List.filter_cons_of_pos (by simpa using hy)]
    simp
set_option maxHeartbeats 4000000 in
theorem without_any (w : World) (B rb : Nat) (L : List BA) (hR : Rg w B rb L) (hL : L.length ≤ 8) (hLr : RiseB L) (x : BA) :
    Calls Tryd.prog 16 #[.pointer (some ⟨rb, 0, none⟩), .string x] w fun e w' => ∃ rb', e = .returned (.pointer (some ⟨rb', 0, none⟩)) ∧ Rg w' w.heap.size rb' (wo x L) ∧ Keep NoB w w' := by
  have HLr := Lib.hid hLr
  clear hLr
  go_enter Tryd.func16, Tryd.ntmps16
  go_wp2_with fail
  refine (nodes_any w B rb L hR hL).mono ?_
  rintro _ w1 ⟨a, c, rfl, O, k1⟩
  have HA := Lib.hid (rds_own O)
  have Hk1 := Lib.hid k1
  have hws : w.heap.size ≤ w1.heap.size := k1.size
  clear O k1 hR
  go_wp2_with fail
  go_loopw [5, 11] (fun ov iv wr => ∃ (k : Nat) (a : Option Addr) (c : Nat) (F : List BA), k ≤ L.length ∧ iv = .int .i64 (k : Int) ∧ ov = .slice a F.length c ∧ wo x (L.take k) = F ∧ Own wr w1.heap.size 9 1 cS (.slice a F.length c) F ∧ Keep NoB w1 wr) (fun _ iv _ => L.length - (intOf iv).toNat)
  case atStart => exact ⟨0, none, 0, [], Nat.zero_le _, rfl, rfl, rfl, Own.nil _ _ _ _ _, Keep.refl _ _⟩
  case round =>
    obtain ⟨k, fa, fc, F, hk, rfl, rfl, hF, O, hkp⟩ := hrel
    have HF := Lib.hid hF
    have HO := Lib.hid O
    have Hk := Lib.hid hkp
    have hFl : F.length ≤ 8 := by rw [← hF]; have := wo_len (L.take k) x; rw [List.length_take] at this; omega
    clear hF O hkp
    by_cases hgo : k < L.length
    · obtain ⟨y, hy⟩ : ∃ y, L[k]? = some y := ⟨_, List.getElem?_eq_getElem hgo⟩
      obtain ⟨b, off, rfl, hbl, hc⟩ := (HA.out.keep0 Hk.out).at hy
      have d1 : decide ((k : Int) < (L.length : Int)) = true := decide_eq_true (by omega)
      have hw1 : IntKind.i64.wrap ((k : Int) + 1) = (k : Int) + 1 := IntWalk.i64_in _ (by omega)
      have hst := wo_take (x := x) hy
      rw [HF.out] at hst
      have Hst := Lib.hid hst
      clear hy hst
      by_cases he : y = x
      · subst he
        have he2 : (y.toList == y.toList) = true := by simp
        have e1 := Hst.out
        rw [if_pos rfl] at e1
        have He1 := Lib.hid e1
        clear e1
        go_wp2_with fail
        go_roundw
        case rel => exact ⟨k + 1, fa, fc, F, hgo, by go_num, rfl, He1.out, HO.out, Hk.out⟩
        case measure => simp [intOf]; omega
      · have he2 := tx_ne he
        have e1 := Hst.out
        rw [if_neg he] at e1
        obtain ⟨F', hF'⟩ : ∃ l, F ++ [y] = l := ⟨_, rfl⟩
        have HF' := Lib.hid hF'
        rw [hF'] at e1
        have He1 := Lib.hid e1
        have hws2 : w1.heap.size ≤ wr.heap.size := Hk.out.size
        clear e1 hF'
        go_wp2_with (at_builtin; refine wpList_append_one (B := w1.heap.size) rfl (.tmp 18) (.tmp 20) 22 rfl Tryd.underlying22 info9' (by kernel_rfl) (by decide) (by decide) rfl (HO.out.alloc (.cells #[.string y] 9)) cS_len y rfl (c := #[.string y]) (t' := 9) (f := (0, 0)) (blk_new wr _) rfl (cS_one _) (by omega) (by simp; omega) HF'.out ?_; intro a4 c4 w4 O4 k4; have HO4 := Lib.hid O4; have Hk4 := Lib.hid (Hk.out.trans' ((((Keep.refl NoB wr).alloc (.cells #[.string y] 9)).none).trans k4) (fun i hi e => by have := HO.out.fresh i e; omega) : Keep NoB w1 w4); clear O4 k4)
        go_roundw
        case rel => exact ⟨k + 1, a4, c4, F', hgo, by go_num, rfl, He1.out, HO4.out, Hk4.out⟩
        case measure => simp [intOf]; omega
    · have d1 : decide ((k : Int) < (L.length : Int)) = false := decide_eq_false (by omega)
      have hFw : F = wo x L := by have := HF.out; rw [List.take_of_length_le (by omega)] at this; exact this.symm
      have HFw := Lib.hid hFw
      clear hFw
      go_wp2_with fail
      refine (new_any wr fa fc F (rds_own HO.out) (by omega)).mono ?_
      rintro _ w5 ⟨rb', L', rfl, hNd, hRg, k5⟩
      have hLL : L' = wo x L := by
        rw [← HFw.out]
        exact nds_self (by rw [HFw.out]; exact wo_rise HLr.out x) hFl hNd
      subst hLL
      have HX := Lib.hid (show Rg w5 w.heap.size rb' (wo x L) ∧ Keep NoB w w5 from ⟨hRg.mono (Nat.le_trans hws Hk.out.size), (Hk1.out.trans Hk.out).trans k5⟩)
      clear hNd hRg k5
      go_wp2_with fail
      go_ret
      exact ⟨rb', rfl, HX.out.1, HX.out.2⟩
end Go.Proofs.YtopgepifakdpfaaDoor
