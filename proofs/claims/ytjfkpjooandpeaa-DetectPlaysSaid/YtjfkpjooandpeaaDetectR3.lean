/- The reference's Tick, Same; the detector that is nil. -/
import Derived.Test.YtjfkpjooandpeaaDetectR2
namespace Go.Proofs.Ytjfkpjooandpeaa
open Go Go.RowKit Go.Maps Go.Sort

/-- Two slices of the same texts are the same. -/
theorem same_any (B1 B2 : Nat) (a1 a2 : Option Addr) (c1 c2 : Nat) (l : List ByteArray) (w : World) (h1 : Own w B1 9 1 cS (.slice a1 l.length c1) l) (h2 : Own w B2 9 1 cS (.slice a2 l.length c2) l) (hl : l.length ≤ 1000000) :
    Calls Try.prog 13 #[.slice a1 l.length c1, .slice a2 l.length c2] w fun e w' => e = .returned (.bool true) ∧ Keep NoB w w' := by
  have H1 := Lib.hid h1
  have H2 := Lib.hid h2
  clear h1 h2
  go_enter Try.func13, Try.ntmps13
  go_wp2_with fail
  go_loopw [5] (fun i wr => ∃ m : Nat, m ≤ l.length ∧ i = .int .i64 m ∧ Keep NoB w wr) (fun i _ => l.length - (intOf i).toNat)
  case atStart => exact ⟨0, Nat.zero_le _, rfl, Keep.refl _ _⟩
  case round =>
    obtain ⟨m, hm, rfl, hk⟩ := hrel
    by_cases hml : m < l.length
    · obtain ⟨x, hx⟩ : ∃ x, l[m]? = some x := ⟨_, List.getElem?_eq_getElem hml⟩
      obtain ⟨b1, e1, _, hb1, m1, _⟩ := (H1.out.keep hk (fun _ _ h => h)).cell1 cS_len hx rfl
      obtain ⟨b2, e2, _, hb2, m2, _⟩ := (H2.out.keep hk (fun _ _ h => h)).cell1 cS_len hx rfl
      cases e1
      cases e2
      clear hx
      go_wp2_with fail
      go_quiet (fail)
      go_wp2_with fail
      go_roundw
      case rel => exact ⟨m + 1, hml, by go_num, hk.drewN _⟩
      case measure => simp [intOf]; omega
    · have hd : decide ((m : Int) < (l.length : Int)) = false := decide_eq_false (by omega)
      go_wp2_with fail
      go_ret
      exact ⟨rfl, hk⟩

def rdies (p now : Int) (N : List RN) : List ByteArray := (N.filter (fun x => livesB p now x.2 && !livesB p (now + 1) x.2)).map (·.1)
theorem rdies_add (p now : Int) (N : List RN) (x : RN) : rdies p now (N ++ [x]) = if livesB p now x.2 && !livesB p (now + 1) x.2 then rdies p now N ++ [x.1] else rdies p now N := by
  unfold rdies
  rw [List.filter_append, List.map_append]
  cases h : (livesB p now x.2 && !livesB p (now + 1) x.2) <;> simp [h]

set_option maxHeartbeats 1000000 in
theorem rtick_any (rb B : Nat) (a : Option Addr) (cap : Nat) (pat now ch : Int) (N : List RN) (w : World) (T : RTab w B rb a cap pat now ch N) (hBr : B ≤ rb) (hBw : B ≤ w.heap.size) (hN : N.length ≤ 1000) (hv : RV now N) (h0 : 0 ≤ now ∧ now ≤ 900) (hc : 0 ≤ ch ∧ ch ≤ 900000) (V : List ByteArray) (hV : rdies pat now N = V) :
    Calls Try.prog 14 #[.pointer (some ⟨rb, 0, none⟩)] w fun e w' => (∃ a' c', e = .returned (.slice a' V.length c') ∧ Own w' w.heap.size 9 1 cS (.slice a' V.length c') V) ∧ (∃ a' cap', RTab w' B rb a' cap' pat (now + 1) (ch + V.length) N) ∧ Keep (OneB rb) w w' := by
  obtain ⟨h00, h01⟩ := h0
  obtain ⟨hc0, hc1⟩ := hc
  have Hv := Lib.hid hv
  have HV := Lib.hid hV
  have hne := T.ne
  have c2 := blk_cell T.blk 2
  have f2 := blk_free T.blk 2
  have hlt := blk_lt T.blk
  have O0 := Own.empty (w.setCell ⟨rb, 2, none⟩ (.int .i64 (now + 1))) (B := w.heap.size) (by simp) 9 1 cS
  rw [show (w.setCell ⟨rb, 2, none⟩ (.int .i64 (now + 1))).heap.size = w.heap.size by simp] at O0
  have hb1 := blk_alloc (o' := .cells #[] 9) (blk_setCell (i := 2) T.blk (.int .i64 (now + 1)))
  have k1 : Keep (OneB rb) w ((w.setCell ⟨rb, 2, none⟩ (.int .i64 (now + 1))).alloc (.cells #[] 9)) := ((Keep.refl (OneB rb) w).setCell (p := ⟨rb, 2, none⟩) (Or.inr rfl) _).alloc _
  have O1 := T.own.keep k1 (fun g hg e => hne g hg e)
  have O2 := O0
  simp at hb1
  have Hb1 := Lib.hid hb1
  have HO1 := Lib.hid O1
  have HO2 := Lib.hid O2
  have Hk1 := Lib.hid k1
  have HT := Lib.hid T
  clear hv hV hb1 O1 O2 k1 O0 T
  simp at c2
  go_enter Try.func14, Try.ntmps14
  go_wp2_with fail
  go_loopw [3, 4] (fun o i wr => ∃ (k : Nat) (M : List ByteArray) (a' : Option Addr) (c' : Nat), k ≤ N.length ∧ i = .int .i64 k ∧ o = .slice a' M.length c' ∧ Own wr w.heap.size 9 1 cS (.slice a' M.length c') M ∧ M.length ≤ k ∧ rdies pat now (N.take k) = M ∧ RTab wr B rb a cap pat (now + 1) (ch + M.length) N ∧ Keep (OneB rb) w wr) (fun _ i _ => N.length - (intOf i).toNat)
  case atStart => exact ⟨0, [], _, 0, Nat.zero_le _, rfl, rfl, HO2.out, Nat.le_refl _, rfl, ⟨by simpa using Hb1.out, HO1.out⟩, Hk1.out⟩
  case round =>
    obtain ⟨k, M, a', c', hk, rfl, rfl, O', hMk, hM, Tr, kr⟩ := hrel
    have HM := Lib.hid hM
    have c0 := blk_cell Tr.blk 0
    have d2 := blk_cell Tr.blk 2
    have hl := blk_lt Tr.blk
    have HTr := Lib.hid Tr
    clear hM Tr
    simp at c0 d2
    by_cases hlt2 : k < N.length
    · obtain ⟨x, hx⟩ : ∃ x, N[k]? = some x := ⟨_, List.getElem?_eq_getElem hlt2⟩
      have hxv := Hv.out x (List.mem_of_getElem? hx)
      have hb : 0 ≤ x.2 ∧ x.2 ≤ 1000 ∧ 0 ≤ now ∧ now ≤ 1000 := by omega
      have hb' : 0 ≤ x.2 ∧ x.2 ≤ 1000 ∧ 0 ≤ now + 1 ∧ now + 1 ≤ 1000 := by omega
      obtain ⟨v1, hv1⟩ : ∃ v, livesB pat now x.2 = v := ⟨_, rfl⟩
      obtain ⟨v2, hv2⟩ : ∃ v, livesB pat (now + 1) x.2 = v := ⟨_, rfl⟩
      have hnext : rdies pat now (N.take (k + 1)) = if v1 && !v2 then M ++ [x.1] else M := by rw [take_one hx, rdies_add, HM.out, hv1, hv2]
      have Hnext := Lib.hid hnext
      have Hb := Lib.hid hb
      have Hb' := Lib.hid hb'
      have Hx := Lib.hid hx
      have Hv1 := Lib.hid hv1
      have Hv2 := Lib.hid hv2
      clear hnext hb hb' hx hxv hv1 hv2
      go_wp2_with fail
      refine (lives_any rb B a cap pat (now + 1) _ N k now _ HTr.out hN x Hx.out Hb.out v1 Hv1.out).mono ?_
      rintro _ w2 ⟨rfl, k2⟩
      have K2 : Keep (OneB rb) w w2 := kr.trans k2.none
      have O2 := O'.keep k2 (fun _ _ h => h)
      have T2 := HTr.out.keep0 k2
      have e2 := blk_cell T2.blk 2
      have hl2 := blk_lt T2.blk
      have HT2 := Lib.hid T2
      clear k2 T2
      simp at e2
      cases v1 with
      | false =>
        have Hn2 : rdies pat now (N.take (k + 1)) = M := by rw [Hnext.out]; rfl
        have Hn2 := Lib.hid Hn2
        go_wp2_with fail
        go_roundw
        case rel => exact ⟨k + 1, M, a', c', hlt2, by go_num, rfl, O2, by omega, Hn2.out, HT2.out, K2⟩
        case measure => simp [intOf]; omega
      | true =>
        go_wp2_with fail
        refine (lives_any rb B a cap pat (now + 1) _ N k (now + 1) _ HT2.out hN x Hx.out Hb'.out v2 Hv2.out).mono ?_
        rintro _ w3 ⟨rfl, k3⟩
        have K3 : Keep (OneB rb) w w3 := K2.trans k3.none
        have O3 := O2.keep k3 (fun _ _ h => h)
        have T3 := HT2.out.keep0 k3
        have HT3 := Lib.hid T3
        cases v2 with
        | true =>
          have Hn2 : rdies pat now (N.take (k + 1)) = M := by rw [Hnext.out]; rfl
          have Hn2 := Lib.hid Hn2
          clear T3 k3
          go_wp2_with fail
          go_roundw
          case rel => exact ⟨k + 1, M, a', c', hlt2, by go_num, rfl, O3, by omega, Hn2.out, HT3.out, K3⟩
          case measure => simp [intOf]; omega
        | false =>
          have d0 := blk_cell T3.blk 0
          have hl3 := blk_lt T3.blk
          obtain ⟨g, cap', hvv, hg1, hg2, hcx⟩ := T3.own.cells rnCells_len Hx.out
          cases hvv
          have m0 := hcx 0 _ rfl
          simp only [Nat.add_zero] at m0
          have Hn2 : rdies pat now (N.take (k + 1)) = M ++ [x.1] := by rw [Hnext.out]; rfl
          obtain ⟨xs, xt⟩ := x
          have s3 := K3.size
          simp at d0 m0
          obtain ⟨M', hM'⟩ : ∃ l, M ++ [xs] = l := ⟨_, rfl⟩
          have hM'l : M'.length = M.length + 1 := by rw [← hM']; simp
          simp only at Hn2
          rw [hM'] at Hn2
          have HM' := Lib.hid hM'
          have HM'l := Lib.hid hM'l
          have Hn2 := Lib.hid Hn2
          clear hM' hM'l hcx T3 k3
          go_wp2_with (first
            | (at_builtin
               refine wpList_append_one rfl (.tmp 40) (.tmp 49) 26 rfl Try.underlying26 info9'' (by kernel_rfl) (by decide) (by decide) rfl (O3.alloc _) cS_len xs rfl (c := #[.string xs]) (t' := 9) (f := (0, 0)) (blk_new w3 _) rfl (cS_one _) (by omega) (by simp; omega) HM'.out ?_
               intro a4 c4 w4 O4 k4
               have hfr := Lib.hid O3.fresh
               have Ka : Keep NoB w3 (w3.alloc (.cells #[.string xs] 9)) := (Keep.refl NoB w3).alloc _
               have K4 : Keep (OneB rb) w w4 := (K3.trans Ka.none).trans' k4 (fun i hi e => by have := hfr.out i e; omega)
               have hdis := Lib.hid (O3.ne_own HT3.out.own (by decide))
               have T4 := (HT3.out.keep0 Ka).keep k4 (fun e => by have := hfr.out rb e; omega) (fun g' hg' e => hdis.out g' e hg')
               have e3 := blk_cell T4.blk 3
               have f3 := blk_free T4.blk 3
               have hl4 := blk_lt T4.blk
               have HT4 := Lib.hid T4
               clear k4 Ka T4
               simp at e3))
          have hb5 := blk_setCell (i := 3) HT4.out.blk (.int .i64 (ch + M.length + 1))
          have k5 : Keep (OneB rb) w4 (w4.setCell ⟨rb, 3, none⟩ (.int .i64 (ch + M.length + 1))) := (Keep.refl (OneB rb) w4).setCell (p := ⟨rb, 3, none⟩) (Or.inr rfl) _
          have O5 := O4.keep k5 (fun g hg e => by have h1 := O4.fresh g hg; have h2 : g = rb := e; omega)
          have OT5 := HT4.out.own.keep k5 (fun g hg e => HT4.out.ne g hg e)
          have K5 := K4.trans k5
          simp at hb5
          go_roundw
          case rel => exact ⟨k + 1, M', a4, c4, hlt2, by go_num, rfl, O5, by have := HM'l.out; omega, Hn2.out, ⟨by rw [show ch + (M'.length : Int) = ch + M.length + 1 by (have := HM'l.out; omega)]; exact hb5, OT5⟩, K5⟩
          case measure => simp [intOf]; omega
    · have hd : decide ((k : Int) < (N.length : Int)) = false := decide_eq_false (by omega)
      have hMV : M = V := by rw [← HM.out, List.take_of_length_le (by omega), HV.out]
      subst hMV
      go_wp2
      go_ret
      exact ⟨⟨a', c', rfl, O'⟩, ⟨a, cap, HTr.out⟩, kr⟩
end Go.Proofs.Ytjfkpjooandpeaa
