/- Past of package marker; All, Upto, Past and Drop where there is no table; Drop. -/
import Derived.Test.YtgangbkompkidaaMarkerA
namespace Go.Proofs.Ytgangbkompkidaa
open Go Go.RowKit Go.Maps Go.Sort

set_option maxHeartbeats 4000000 in
theorem those_past (tb mb : Nat) (limit : Int) (M : List MK) (w : World) (T : Tab w tb mb limit M) (hn : M.length ≤ 100000) (hr : RiseM M) (a b : Int) (ab bb : Nat) (h2 : w.cell? ⟨ab, 0, none⟩ = some (.int .i64 a)) (h3 : w.cell? ⟨bb, 0, none⟩ = some (.int .i64 b)) (l2 : ab < w.heap.size) (l3 : bb < w.heap.size) (m2 : ab ≠ mb) (m3 : bb ≠ mb) :
    Calls Try.prog 22 #[.pointer (some ⟨tb, 0, none⟩), .func (.func 29) #[] #[.pointer (some ⟨ab, 0, none⟩), .pointer (some ⟨bb, 0, none⟩)]] w fun e w' => e = .returned (.int .i64 ((M.length : Int) - (goneN (pastP a b) M M.length).length)) ∧ Tab w' tb mb limit (goneN (pastP a b) M M.length) ∧ Keep (OneB mb) w w' := by
  have HT := Lib.hid T
  have Hr := Lib.hid hr
  clear T hr
  go_enter Try.func22, Try.ntmps22
  go_wp2_with fail
  refine (all_any tb mb limit M w HT.out hn Hr.out).mono ?_
  rintro _ w1 ⟨oa, oc, rfl, O1, k1⟩
  go_wp2_with fail
  have hmb : mb < w.heap.size := by obtain ⟨L, hm, _⟩ := HT.out.map; exact hm.lt
  have HT1 := Lib.hid (HT.out.keep k1 (fun h => h) (fun h => h))
  have HO1 := Lib.hid O1
  have Hk1 := Lib.hid k1
  have g0 : goneN (pastP a b) M 0 = M := by simp [goneN]
  have Hg0 := Lib.hid g0
  clear O1 k1 g0
  go_loopw [5, 11] (fun nv iv wr => ∃ k : Nat, k ≤ M.length ∧ iv = .int .i64 (k : Int) ∧ nv = .int .i64 ((M.length : Int) - ((goneN (pastP a b) M k).length : Int)) ∧ Tab wr tb mb limit (goneN (pastP a b) M k) ∧ Own wr w.heap.size 37 3 mCells (.slice oa M.length oc) M ∧ Keep (OneB mb) w wr) (fun _ iv _ => M.length - (intOf iv).toNat)
  case atStart => exact ⟨0, Nat.zero_le _, rfl, by rw [Hg0.out]; simp, by rw [Hg0.out]; exact HT1.out, HO1.out, Hk1.out.none⟩
  case round =>
    obtain ⟨k, hk, rfl, rfl, Tk, Ok, Kk⟩ := hrel
    have HTk := Lib.hid Tk
    have HOk := Lib.hid Ok
    have HKk := Lib.hid Kk
    clear Tk Ok Kk
    by_cases hkn : k < M.length
    · obtain ⟨x, hx⟩ : ∃ x, M[k]? = some x := ⟨_, List.getElem?_eq_getElem hkn⟩
      obtain ⟨g, cap', hvv, hg1, hg2, hcx⟩ := HOk.out.cells mCells_len hx
      have Hvv := Lib.hid hvv
      have Hx := Lib.hid hx
      cases hvv
      have r0 := hcx 0 _ rfl
      have r1 := hcx 1 _ rfl
      have r2 := hcx 2 _ rfl
      simp only [Nat.add_zero] at r0
      obtain ⟨x0, x1, x2⟩ := x
      simp at r0 r1 r2
      clear hcx hx Hvv
      obtain ⟨v, hv⟩ : ∃ v, pastP a b (x0, x1, x2) = v := ⟨_, rfl⟩
      have Hv := Lib.hid hv
      clear hv
      go_wp2_with fail
      have kA : Keep NoB wr (wr.alloc (.cells #[.string x0, .int .i64 x1, .int .i64 x2] 37)) := (Keep.refl NoB wr).alloc _
      have KA := HKk.out.trans kA.none
      refine (past_fn a b ab bb (x0, x1, x2) _ (KA.some h2 m2) (KA.some h3 m3) (Nat.lt_of_lt_of_le l2 KA.size) (Nat.lt_of_lt_of_le l3 KA.size) v Hv.out).mono ?_
      rintro _ w2 ⟨rfl, k2⟩
      have T2 := HTk.out.keep (kA.trans k2) (fun h => h) (fun h => h)
      have bb2 := blk_keep (blk_new wr (.cells #[.string x0, .int .i64 x1, .int .i64 x2] 37)) k2 (fun h => h)
      have d1 := blk_cell T2.blk 1
      have dl := blk_lt T2.blk
      have z0 := blk_cell bb2 0
      have z1 := blk_cell bb2 1
      have z2 := blk_cell bb2 2
      have zl := blk_lt bb2
      simp at d1 z0 z1 z2
      obtain ⟨L, hm, hM⟩ := T2.map
      have hxM := List.mem_of_getElem? Hx.out
      have Hxo := Lib.hid (show mOk (x0, x1, x2) from by obtain ⟨_, _, h⟩ := HT.out.map; exact h.ok _ hxM)
      have Hkey := Lib.hid (keyOf_mV (x0, x1, x2) Hxo.out)
      have Hap := Lib.hid (hm.apart law37)
      have HM := Lib.hid hM
      have Hm := Lib.hid hm
      have HT2 := Lib.hid T2
      have HK2 := Lib.hid (KA.trans k2.none)
      have HO2 := Lib.hid (HOk.out.keep (kA.trans k2) (fun _ _ h => h))
      have hle := gone_le (pastP a b) M k
      obtain ⟨q, hq⟩ : ∃ q : Int, (M.length : Int) - ((goneN (pastP a b) M k).length : Int) = q := ⟨_, rfl⟩
      rw [hq]
      have hq0 : 0 ≤ q := by omega
      have hq1 : q ≤ 100000 := by omega
      have Hq := Lib.hid hq
      clear bb2 T2 hm hM hxM k2 kA KA r0 r1 r2 hle hq
      cases v
      · have hst := gone_stay (p := pastP a b) Hx.out (by rw [Hv.out]; simp)
        have Hst := Lib.hid hst
        clear hst
        go_wp2_with fail
        go_roundw
        case rel => exact ⟨k + 1, hkn, by go_num, by rw [Hst.out, Hq.out], by rw [Hst.out]; exact HT2.out, HO2.out, HK2.out⟩
        case measure => simp [intOf]; omega
      · have hmem := gone_mem (p := pastP a b) (by obtain ⟨_, _, h⟩ := HT.out.map; exact h.nd) Hx.out Hv.out
        have Hms := Lib.hid (ms_del HM.out Hap.out Hxo.out (gone_nd (p := pastP a b) (by obtain ⟨_, _, h⟩ := HT.out.map; exact h.nd) (k + 1)) hmem)
        have Hln := Lib.hid (gone_len Hx.out Hv.out)
        have hne := HT2.out.ne
        clear hmem
        go_wp2_with fail
        refine wp_region_tail 5 (by kernel_rfl) (by kernel_rfl) ?_
        simp only [List.take_succ_cons, List.take_zero, List.drop_succ_cons, List.drop_zero]
        repeat still_step
        refine wpStill_nil ?_
        refine wpList_mdrop _ rfl _ _ 51 37 rfl 4 law37 Try.underlying51 encT mb L rfl Hm.out.drew _ _ rfl Hkey.out ?_
        intro w5 hm5 ht5
        have k5 : Keep (OneB mb) w2 w5 := ((Keep.refl (OneB mb) w2).drew).turned ht5 (Or.inr rfl)
        have HT5 := Lib.hid (show Tab w5 tb mb limit (goneN (pastP a b) M (k + 1)) from ⟨blk_keep HT2.out.blk k5 hne, _, hm5, Hms.out⟩)
        have HO5 := Lib.hid (HO2.out.keep k5 (fun g hg e => by have := HO2.out.fresh g hg; have e' : g = mb := e; omega))
        have HK5 := Lib.hid (HK2.out.trans k5)
        clear hm5 ht5 k5
        go_wp2_with fail
        go_roundw
        case rel => exact ⟨k + 1, hkn, by go_num, congrArg (Value.int .i64) (by have h9 := Hq.out; have h8 := Hln.out; omega), HT5.out, HO5.out, HK5.out⟩
        case measure => simp [intOf]; omega
    · have hd : decide ((k : Int) < (M.length : Int)) = false := decide_eq_false (by omega)
      obtain rfl : k = M.length := by omega
      go_wp2
      go_ret
      exact ⟨rfl, HTk.out, HKk.out⟩

def pastM (a b : Int) (M : List MK) : List MK := M.filter (fun x => !pastP a b x)
set_option maxHeartbeats 2000000 in
theorem past_any (tb mb : Nat) (limit : Int) (M : List MK) (w : World) (T : Tab w tb mb limit M) (hn : M.length ≤ 100000) (hr : RiseM M) (a b : Int) :
    Calls Try.prog 16 #[.pointer (some ⟨tb, 0, none⟩), .int .i64 a, .int .i64 b] w fun e w' => e = .returned (.int .i64 ((M.length : Int) - (pastM a b M).length)) ∧ Tab w' tb mb limit (pastM a b M) ∧ Keep (OneB mb) w w' := by
  have HT := Lib.hid T
  have Hr := Lib.hid hr
  have hmb : mb < w.heap.size := by obtain ⟨L, hm, _⟩ := T.map; exact hm.lt
  clear T hr
  go_enter Try.func16, Try.ntmps16
  go_wp2_with fail
  have b1 := blk_new w (.cells #[.int .i64 a] 3)
  have b2 := blk_new (w.alloc (.cells #[.int .i64 a] 3)) (.cells #[.int .i64 b] 3)
  have b1' := blk_alloc (o' := .cells #[.int .i64 b] 3) b1
  have kk : Keep NoB w ((w.alloc (.cells #[.int .i64 a] 3)).alloc (.cells #[.int .i64 b] 3)) := ((Keep.refl NoB w).alloc _).alloc _
  have e2 : (w.alloc (.cells #[.int .i64 a] 3)).heap.size = w.heap.size + 1 := by simp
  rw [e2] at b2
  have c1 := blk_cell b1' 0
  have c2 := blk_cell b2 0
  have l1 := blk_lt b1'
  have l2 := blk_lt b2
  have hc := those_past tb mb limit M _ (HT.out.keep kk (fun h => h) (fun h => h)) hn Hr.out a b w.heap.size (w.heap.size + 1) (by simp) (by simp) l1 l2 (by omega) (by omega)
  rw [gone_all] at hc
  change Calls _ _ _ _ (fun e w' => e = .returned (.int .i64 ((M.length : Int) - (pastM a b M).length)) ∧ Tab w' tb mb limit (pastM a b M) ∧ Keep (OneB mb) _ w') at hc
  have Hkk := Lib.hid kk
  clear b1 b2 b1' e2 c1 c2 l1 l2 kk
  refine hc.mono ?_
  rintro _ w2 ⟨rfl, T2, k2⟩
  have HT2 := Lib.hid T2
  clear T2
  go_wp2
  go_ret
  exact ⟨rfl, HT2.out, Hkk.out.none.trans k2⟩


theorem nall_any (w : World) : Calls Try.prog 14 #[.pointer none] w fun e w' => e = .returned (.slice none 0 0) ∧ w' = w := by
  go_enter Try.func14, Try.ntmps14
  go_wp2
  go_ret
  exact ⟨rfl, rfl⟩
theorem drop_any (tb mb : Nat) (limit : Int) (M : List MK) (w : World) (T : Tab w tb mb limit M) :
    Calls Try.prog 19 #[.pointer (some ⟨tb, 0, none⟩)] w fun e w' => e = .returned (.tuple #[]) ∧ Tab w' tb mb limit [] ∧ Keep (OneB mb) w w' := by
  have c1 := blk_cell T.blk 1
  have hlt := blk_lt T.blk
  have hne := T.ne
  have hblk := Lib.hid T.blk
  obtain ⟨L, hm, hM⟩ := T.map
  clear T hM
  simp at c1
  go_enter Try.func19, Try.ntmps19
  go_wp2_with (first
    | (refine wpList_mclear _ rfl _ 51 rfl 37 4 Try.underlying51 encT mb L rfl hm ?_; intro w1 hm1 ht1))
  go_end0
  have hk : Keep (OneB mb) w w1 := Keep.of_turned ht1 rfl
  exact ⟨rfl, ⟨blk_keep hblk.out hk hne, [], hm1, MS.nil⟩, hk⟩
theorem ndrop_any (w : World) : Calls Try.prog 19 #[.pointer none] w fun e w' => e = .returned (.tuple #[]) ∧ w' = w := by
  go_enter Try.func19, Try.ntmps19
  go_wp2
  go_end0
  exact ⟨rfl, rfl⟩
end Go.Proofs.Ytgangbkompkidaa
