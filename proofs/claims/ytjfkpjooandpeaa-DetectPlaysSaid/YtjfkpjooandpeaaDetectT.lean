/- Tick of package detect. -/
import Derived.Test.YtjfkpjooandpeaaDetectU
namespace Go.Proofs.Ytjfkpjooandpeaa
open Go Go.RowKit Go.Maps Go.Sort

def TickPost (tb mb : Nat) (pat ch : Int) (L : DL) (M : List ByteArray) (w : World) (e : Ending) (w' : World) : Prop :=
  ∃ a c, e = .returned (.slice a M.length c) ∧ Own w' w.heap.size 9 1 cS (.slice a M.length c) M ∧ Tab w' tb mb pat (ch + M.length) (tickL L) ∧ Keep (TwoB tb mb) w w'


set_option maxHeartbeats 1000000 in
theorem tick_any (tb mb : Nat) (pat ch : Int) (L : DL) (w : World) (T : Tab w tb mb pat ch L) (hn : L.length ≤ 100000) (hv : ∀ p ∈ L, 0 ≤ p.2 ∧ p.2 ≤ 9223372036854775807) (h0 : 0 ≤ ch) (h1 : ch ≤ 900000000) (M : List ByteArray) (hM : keysOf (diesL L) = M) :
    Calls Try.prog 9 #[.pointer (some ⟨tb, 0, none⟩)] w (TickPost tb mb pat ch L M w) := by
  have hriL := T.map.rising law9
  have hri : (diesL L).Pairwise (fun p q => p.1.before q.1 = true) := List.Pairwise.sublist List.filter_sublist hriL.1
  have hapL := T.map.apart law9
  have hap : Apart (diesL L) := List.Pairwise.sublist List.filter_sublist hapL
  have hks : KeysS (diesL L) := filter_keysS (keysS Try.underlying9 T.map) _
  have Hri := Lib.hid hri
  have HriL := Lib.hid hriL
  have HapL := Lib.hid hapL
  have Hap := Lib.hid hap
  have Hks := Lib.hid hks
  have HM := Lib.hid hM
  have Hv := Lib.hid hv
  clear hri hriL hap hapL hks hM hv
  have c0 := blk_cell T.blk 0
  have c1 := blk_cell T.blk 1
  have c2 := blk_cell T.blk 2
  have hlt := blk_lt T.blk
  have hm := T.map
  have hne := T.ne
  have hblk := Lib.hid T.blk
  clear T
  simp at c0 c1 c2
  have hmlt := hm.lt
  go_enter Try.func9, Try.ntmps9
  go_wp2_with (first
    | (at_range; refine wpList_mrange _ rfl _ 46 rfl 9 3 law9 Try.underlying46 encI mb L rfl hm ?_; intro w0 hrg0 hk0 hs0))
  go_frame
  have hL0 := midL_start L HriL.out.2
  have Hg0 := Lib.hid (show RangeAt Try.prog 9 encI w0 mb w.heap.size (midL L (fun kl => (lget L kl).isSome)) (fun kl => (lget L kl).isSome) L.length by rw [hL0]; exact hrg0)
  have Hb0 := Lib.hid (blk_keep hblk.out hk0 (fun h => h))
  have hkk0 : Keep (TwoB tb mb) w w0 := hk0.none
  have HS : SeenK [] (diesL L) (fun kl => (lget L kl).isSome) := by
    refine ⟨by simp, fun p => ⟨(fun h => by cases h), fun ⟨h1, h2⟩ => ?_⟩⟩
    have h2' : (lget L (kT p)).isSome = false := h2
    have h3 : lget (diesL L) (kT p) = _ := lget_filter HapL.out _ (kT p) (kT_key p)
    cases h4 : lget L (kT p) with
    | none => rw [h3, h4] at h1; cases h1
    | some v => rw [h4] at h2'; cases h2'
  have HS0 := Lib.hid HS
  clear hrg0 hs0 c0 c1 c2 HS hL0 hk0
  go_loopw [3] (fun o wr => ∃ (left : Lit → Bool) (cnt : Nat) (N : List ByteArray) (a : Option Addr) (c : Nat), RangeAt Try.prog 9 encI wr mb w.heap.size (midL L left) left cnt ∧ o = .slice a N.length c ∧ Own wr (w.heap.size + 1) 9 1 cS (.slice a N.length c) N ∧ N.length + cnt ≤ L.length ∧ SeenK N (diesL L) left ∧ wr.heap[tb]? = some (.cells #[.int .i64 pat, .map (some mb), .int .i64 (ch + N.length)] 53 (0, 0)) ∧ Keep (TwoB tb mb) w wr) (fun _ wr => wr.rangeLeft mb w.heap.size)
  case atStart => exact ⟨_, _, [], none, 0, Hg0.out, rfl, ⟨by simp, Or.inl ⟨rfl, rfl⟩⟩, by simp, HS0.out, by simpa using Hb0.out, hkk0⟩
  case round =>
    obtain ⟨left, cnt, N, a, c, hrg, rfl, O, hNc, hSN, hbl, hk⟩ := hrel
    have HSN := Lib.hid hSN
    have Hbl := Lib.hid hbl
    have hltr := blk_lt hbl
    have hwr : w.heap.size < wr.heap.size := hrg.lt
    clear hSN hbl
    go_wp2_with (first
      | (at_next; refine wpList_mnext _ rfl _ rfl 9 law9 encI Value.string inv9 mb w.heap.size _ left cnt rfl hrg ?_ ?_))
    · intro _ hl0
      have hpm := seenK_end HSN.out hl0 Hks.out Hap.out Hri.out
      rw [HM.out] at hpm
      have hrM : M.Pairwise (fun x y => bs x < bs y) := by rw [← HM.out]; exact keysOf_rising Hks.out Hri.out
      have hm1 := hrg.map
      rw [midL_end L left hl0] at hm1
      have Hm1 := Lib.hid hm1
      have Hpm := Lib.hid hpm
      have HrM := Lib.hid hrM
      clear hl0 hpm hrM hm1
      go_wp2_with fail
      refine (sort_any _ _ a c N M O (by omega) Hpm.out HrM.out).mono ?_
      rintro _ w5 ⟨rfl, O5, k5⟩
      have hNM : N.length = M.length := Hpm.out.length_eq
      have HNM := Lib.hid hNM
      have hfr := Lib.hid O.fresh
      have K5 : Keep (TwoB tb mb) w w5 := hk.trans' k5 (fun i hi e => by have := hfr.out i e; omega)
      have T5 : Tab w5 tb mb pat (ch + N.length) (tickL L) := Tab.keep (S := _) ⟨Hbl.out, Hm1.out⟩ k5 (fun e => by have := hfr.out tb e; omega) (fun e => by have := hfr.out mb e; omega)
      clear hNM k5
      go_wp2_with fail
      go_ret
      exact ⟨a, c, by rw [HNM.out]; rfl, O5.mono (Nat.le_succ _), by rw [← HNM.out]; exact T5, K5⟩
    · intro s x kl w1 cnt1 hkey hl hx hrg1 hlt1 hk1 hs1 hen
      simp only [encI] at hen ⊢
      obtain ⟨n, e1, e2, _⟩ := keyOf_string_inv' Try.underlying9 hkey
      cases e1
      subst e2
      have hkey2 : keyOf Try.prog 9 (.string s) = some (kT s) := hkey
      have hx : lget (midL L left) (kT s) = some x := hx
      have hmx := midL_at hl hx
      have hLx : lget L (kT s) = some x := lget_of_mem HapL.out (kT_key s) hmx
      obtain ⟨hv1, hv2⟩ := Hv.out _ hmx
      simp only at hv1 hv2
      have hfl : lget (diesL L) (kT s) = _ := lget_filter HapL.out _ (kT s) (kT_key s)
      rw [hLx] at hfl
      simp only at hfl
      have hr1 : w.heap.size ≠ tb := by omega
      have K1 : Keep (TwoB tb mb) w w1 := hk.trans' hk1 (fun j hj e => by have : j = w.heap.size := e; omega)
      have O1 := O.keep hk1 (fun g hg e => by have h1 := O.fresh g hg; have h2 : g = w.heap.size := e; omega)
      have hbl1 := blk_keep Hbl.out hk1 (by simpa [OneB] using Ne.symm hr1)
      have d1 := blk_cell hbl1 1
      have hl1 := blk_lt hbl1
      have hrl := hrg1.lt
      have hlN : N.length ≤ 100000 := by omega
      have s1 := K1.size
      have Hbl1 := Lib.hid hbl1
      have HapL2 := Lib.hid (kT_key s)
      clear hbl1 hmx hLx hk1 hs1
      simp at d1
      by_cases hx0 : x = 0
      · subst hx0
        rw [if_neg (by simp)] at hfl
        have HSN' := Lib.hid (seenK_skip HSN.out hfl)
        have hmz := Lib.hid (midL_zero HapL.out (kT_key s) hl hx)
        clear hfl hl hx
        go_wp2_with fail
        go_roundw
        case rel => exact ⟨_, cnt1, N, a, c, by rw [← hmz.out]; exact hrg1, rfl, O1, by omega, HSN'.out, Hbl1.out, K1⟩
        case measure => rw [hrg1.left_eq, hrg.left_eq]; exact hlt1
      · have hxb : (x == 0) = false := by simpa using hx0
        have hst := Lib.hid (midL_stored HapL.out (kT_key s) hl hx hx0)
        have hml : (midL L left).length = L.length := by simp [midL]
        have Hml := Lib.hid hml
        clear hml hx0
        by_cases hx1 : x = 1
        · subst hx1
          have hst0 : lset (midL L left) (kT s) 0 = midL L (fun z => left z && !z.sameKey (kT s)) := hst.out
          have hst := Lib.hid hst0
          clear hst0
          rw [if_pos (by simp)] at hfl
          have hSN' := seenK_step HSN.out hl hfl
          have HSN' := Lib.hid hSN'
          obtain ⟨N', hN'⟩ : ∃ l, N ++ [s] = l := ⟨_, rfl⟩
          have HN' := Lib.hid hN'
          have hN'l : N'.length = N.length + 1 := by rw [← hN']; simp
          have HN'l := Lib.hid hN'l
          clear hN' hN'l hSN' hl hfl
          go_wp2_with (first
            | (at_mapUpdate
               refine wpList_mstore_range _ rfl _ _ _ 46 rfl 9 3 law9 Try.underlying46 encI mb w.heap.size _ _ cnt1 rfl hrg1 (by rw [Hml.out]; unfold maxLen; omega) _ (kT s) 1 0 rfl rfl hkey2 hx ?_
               intro w2 hrg2 hturn
               rw [hst.out] at hrg2
               have kt : Keep (OneB mb) w1 w2 := Keep.of_turned hturn rfl
               have O2 := O1.keep kt (fun g hg e => by have h1 := O1.fresh g hg; have h2 : g = mb := e; omega)
               have Hbl2 := Lib.hid (blk_keep Hbl1.out kt (fun e => hne e))
               have K2 : Keep (TwoB tb mb) w w2 := K1.turned hturn (Or.inr (Or.inr rfl))
               have s2 := K2.size
               clear kt hturn)
            | (at_builtin
               refine wpList_append_one rfl (.tmp 29) (.tmp 31) 26 rfl Try.underlying26 info9' (by kernel_rfl) (by decide) (by decide) rfl (O2.alloc _) cS_len s rfl (c := #[.string s]) (t' := 9) (f := (0, 0)) (blk_new w2 _) rfl (cS_one _) (by omega) (by simp; omega) HN'.out ?_
               intro a4 c4 w4 O4 k4
               have Ka : Keep NoB w2 (w2.alloc (.cells #[.string s] 9)) := (Keep.refl NoB w2).alloc _
               have hfr := Lib.hid O2.fresh
               have hrg4 := (hrg2.keep Ka (fun h => h) (fun h => h)).keep k4 (fun e => O2.ne_map hrg2.map mb e rfl) (fun e => by have := hfr.out _ e; omega)
               have K4 : Keep (TwoB tb mb) w w4 := (K2.trans (Ka.none)).trans' k4 (fun i hi e => by have := hfr.out i e; omega)
               have hb4 := blk_keep (blk_keep Hbl2.out Ka (fun h => h)) k4 (fun e => by have := hfr.out tb e; omega)
               have d2 := blk_cell hb4 2
               have g2 := blk_free hb4 2
               have Hb4 := Lib.hid hb4
               clear k4 Ka hb4
               simp at d2))
          refine (cadd_any tb (ch + N.length) _ d2 g2 (by omega) (by omega)).mono ?_
          rintro _ w5 ⟨rfl, hw5⟩
          have k5 : Keep (OneB tb) w4 w5 := by rw [hw5]; exact (Keep.refl (OneB tb) w4).setCell (p := ⟨tb, 2, none⟩) (Or.inr rfl) _
          have hb5 : w5.heap[tb]? = some (.cells #[.int .i64 pat, .map (some mb), .int .i64 (ch + N.length + 1)] 53 (0, 0)) := (by have := blk_setCell (i := 2) Hb4.out (.int .i64 (ch + N.length + 1)); rw [hw5]; simpa using this)
          have hrg5 := hrg4.keep k5 (fun e => hne (Eq.symm e)) (fun e => hr1 e)
          have O5 := O4.keep k5 (fun g hg e => by have h1 := O4.fresh g hg; have h2 : g = tb := e; omega)
          have K5 : Keep (TwoB tb mb) w w5 := K4.trans (k5.mono (fun i h => Or.inl h))
          have Hb5 := Lib.hid hb5
          clear hw5 k5 hb5
          go_wp2_with fail
          go_roundw
          case rel => exact ⟨_, cnt1, N', a4, c4, hrg5, rfl, O5, by have := HN'l.out; omega, by rw [← HN'.out]; exact HSN'.out, by rw [show ch + (N'.length : Int) = ch + N.length + 1 by (have := HN'l.out; omega)]; exact Hb5.out, K5⟩
          case measure => rw [hrg5.left_eq, hrg.left_eq]; exact hlt1
        · rw [if_neg (by simpa using hx1)] at hfl
          have hxb1 : (x == 1) = false := by simpa using hx1
          have HSN' := Lib.hid (seenK_skip HSN.out hfl)
          clear hfl hl hx1
          go_wp2_with (first
            | (at_mapUpdate
               refine wpList_mstore_range _ rfl _ _ _ 46 rfl 9 3 law9 Try.underlying46 encI mb w.heap.size _ _ cnt1 rfl hrg1 (by rw [Hml.out]; unfold maxLen; omega) _ (kT s) x (x - 1) rfl rfl hkey2 hx ?_
               intro w2 hrg2 hturn
               rw [hst.out] at hrg2
               have kt : Keep (OneB mb) w1 w2 := Keep.of_turned hturn rfl
               have O2 := O1.keep kt (fun g hg e => by have h1 := O1.fresh g hg; have h2 : g = mb := e; omega)
               have Hbl2 := Lib.hid (blk_keep Hbl1.out kt (fun e => hne e))
               have K2 : Keep (TwoB tb mb) w w2 := K1.turned hturn (Or.inr (Or.inr rfl))
               clear kt hturn))
          go_roundw
          case rel => exact ⟨_, cnt1, N, a, c, hrg2, rfl, O2, by omega, HSN'.out, Hbl2.out, K2⟩
          case measure => rw [hrg2.left_eq, hrg.left_eq]; exact hlt1
end Go.Proofs.Ytjfkpjooandpeaa
