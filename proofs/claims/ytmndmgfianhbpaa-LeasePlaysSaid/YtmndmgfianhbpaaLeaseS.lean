/- What the reference's Tick and Grant come to. -/
import Derived.Test.YtmndmgfianhbpaaLeaseR
namespace Go.Proofs.Ytmndmgfianhbpaa
open Go Go.RowKit Go.Maps


theorem rtick_any (rb B : Nat) (a : Option Addr) (cap : Nat) (limit ticks now last : Int) (N : List RL) (w : World) (T : RTab w B rb a cap limit ticks now last N) (hB : B ≤ w.heap.size) (hN : N.length ≤ 1000) (hn0 : 0 ≤ now) (hn1 : now < 4611686018427387904) :
    Calls Try.prog 22 #[.pointer (some ⟨rb, 0, none⟩)] w (RPost rb B (OneB rb) limit ticks (now + 1) last (N.filter (fun x => decide (now + 1 < x.2.2))) (.tuple #[]) w) := by
  have c0 := blk_cell T.blk 0
  have c1 := blk_cell T.blk 1
  have c2 := blk_cell T.blk 2
  have c3 := blk_cell T.blk 3
  have c4 := blk_cell T.blk 4
  have f0 := blk_free T.blk 0
  have f3 := blk_free T.blk 3
  have f4 := blk_free T.blk 4
  have hlt := blk_lt T.blk
  have O := T.own
  have Hblk := Lib.hid T.blk
  clear T
  simp at c0 c1 c2 c3 c4
  obtain ⟨N', hN'⟩ : ∃ l, N.filter (fun x => decide (now + 1 < x.2.2)) = l := ⟨_, rfl⟩
  have HN' := Lib.hid hN'
  rw [hN']
  clear hN'
  go_enter Try.func22, Try.ntmps22
  go_wp2_with fail
  have hbX := blk_setCell (i := 3) Hblk.out (.int .i64 (now + 1))
  generalize hX : World.setCell w ⟨rb, 3, none⟩ (.int .i64 (now + 1)) = X at hbX ⊢
  have kX : Keep (OneB rb) w X := by rw [← hX]; exact Keep.setCell (Keep.refl (OneB rb) w) (p := ⟨rb, 3, none⟩) (Or.inr rfl) _
  have OX := O.keep kX (fun g hg e => O.ne Hblk.out (by decide) g hg e)
  have HbX := Lib.hid hbX
  have bY := Lib.hid (blk_alloc (o' := .cells #[] 66) HbX.out)
  have sX : X.heap.size = w.heap.size := by rw [← hX]; simp
  clear hX hbX c0 c1 c2 c3 c4 f0 f3 f4
  go_loopw [2, 3] (fun m i wx => ∃ (k : Nat) (M : List RL) (am : Option Addr) (cm : Nat), k ≤ N.length ∧ i = .int .i64 k ∧ m = .slice am M.length cm ∧ M.length ≤ k ∧ (N.take k).filter (fun x => decide (now + 1 < x.2.2)) = M ∧ Own wx X.heap.size 66 3 rlCells m M ∧ Keep NoB X wx) (fun _ i _ => N.length - (intOf i).toNat)
  case atStart => exact ⟨0, [], _, 0, Nat.zero_le _, rfl, rfl, Nat.le_refl _, by simp, (by have h := Own.empty X (Nat.le_refl _) 66 3 rlCells; rw [sX] at h; rw [sX]; exact h), (Keep.refl NoB X).alloc _⟩
  case round =>
    obtain ⟨k, M, am, cm, hk, rfl, rfl, hM, hf, OM, hx⟩ := hrel
    have Hf := Lib.hid hf
    have hbw := blk_keep HbX.out hx (fun h => h)
    have c0 := blk_cell hbw 0
    have c3 := blk_cell hbw 3
    have hlw := blk_lt hbw
    have Hbw := Lib.hid hbw
    clear hf hbw
    simp at c0 c3
    by_cases hkl : k < N.length
    · obtain ⟨x, hxm⟩ : ∃ x, N[k]? = some x := ⟨_, List.getElem?_eq_getElem hkl⟩
      obtain ⟨g, cap', hvv, hg1, hg2, hcx⟩ := (OX.keep hx (fun _ _ h => h)).cells rlCells_len hxm
      cases hvv
      obtain ⟨xs, xt, xu⟩ := x
      have m0 := hcx 0 _ rfl
      have m1 := hcx 1 _ rfl
      have m2 := hcx 2 _ rfl
      simp only [Nat.add_zero] at m0
      have Hxm := Lib.hid hxm
      clear hcx hxm
      by_cases hgt : now + 1 < xu
      · have hd1 : decide (now + 1 < xu) = true := by simpa using hgt
        obtain ⟨M', hM'⟩ : ∃ l, M ++ [(xs, xt, xu)] = l := ⟨_, rfl⟩
        have hM2 : M'.length ≤ k + 1 := by rw [← hM']; simp; omega
        have hM3 : (N.take (k + 1)).filter (fun x => decide (now + 1 < x.2.2)) = M' := by rw [List.take_add_one, Hxm.out, List.filter_append, Hf.out, ← hM']; simp [hgt]
        have HM' := Lib.hid hM'
        have HM3 := Lib.hid hM3
        clear hM' hM3
        go_wp2_with fail
        go_quiet (fail)
        go_wp2_with (at_builtin; refine wpList_append_one rfl (.tmp 34) (.tmp 42) 47 rfl Try.underlying47 info66' (by kernel_rfl) (by decide) (by decide) rfl (OM.keep (((Keep.refl NoB wr).drewN nq).alloc _) (fun _ _ h => h)) rlCells_len (xs, xt, xu) rfl (blk_new (World.drewN wr nq) _) rfl (rlCells_one _) (by omega) (by simp; have := hx.size; omega) HM'.out ?_; intro a4 q4 w4 O4 k4)
        have K4 : Keep NoB X w4 := ((hx.drewN nq).alloc _).trans' k4 (fun i hi e => by have := OM.fresh i e; omega)
        clear k4 OM hx
        go_wp2_with fail
        go_roundw
        case rel => exact ⟨k + 1, M', a4, q4, hkl, by go_num, rfl, hM2, HM3.out, O4, K4⟩
        case measure => simp [intOf]; omega
      · have hd1 : decide (now + 1 < xu) = false := by simpa using hgt
        have hM3 : (N.take (k + 1)).filter (fun x => decide (now + 1 < x.2.2)) = M := by rw [List.take_add_one, Hxm.out, List.filter_append, Hf.out]; simp [hgt]
        have HM3 := Lib.hid hM3
        clear hM3
        go_wp2_with fail
        go_quiet (fail)
        go_wp2_with fail
        go_roundw
        case rel => exact ⟨k + 1, M, am, cm, hkl, by go_num, rfl, by omega, HM3.out, OM.keep ((Keep.refl NoB wr).drewN _) (fun _ _ h => h), hx.drewN _⟩
        case measure => simp [intOf]; omega
    · obtain rfl : M = N' := by rw [← Hf.out, ← HN'.out, List.take_of_length_le (by omega)]
      have f0 := blk_free Hbw.out 0
      go_wp2_with fail
      go_end0
      refine ⟨rfl, ⟨am, cm, ⟨?_, ?_⟩⟩, ?_⟩
      · have hb := blk_setCell (i := 0) Hbw.out (.slice am M.length cm)
        simpa using hb
      · exact (OM.mono (by omega)).keep (Keep.setCell (Keep.refl (OneB rb) wr) (p := ⟨rb, 0, none⟩) (Or.inr rfl) _) (fun g hg e => OM.ne Hbw.out (by decide) g hg e)
      · exact (kX.trans (hx.none (S := OneB rb))).setCell (p := ⟨rb, 0, none⟩) (Or.inr rfl) _

theorem rgrant_full (rb B : Nat) (a : Option Addr) (cap : Nat) (limit ticks now last : Int) (N : List RL) (s : ByteArray) (w : World) (T : RTab w B rb a cap limit ticks now last N) (hl : limit ≤ N.length) :
    Calls Try.prog 19 #[.pointer (some ⟨rb, 0, none⟩), .string s] w (RPost rb B (OneB rb) limit ticks now last N (.int .i64 0) w) := by
  have HT := Lib.hid T
  have c0 := blk_cell T.blk 0
  have c1 := blk_cell T.blk 1
  have c2 := blk_cell T.blk 2
  have c3 := blk_cell T.blk 3
  have c4 := blk_cell T.blk 4
  have f0 := blk_free T.blk 0
  have f3 := blk_free T.blk 3
  have f4 := blk_free T.blk 4
  have hlt := blk_lt T.blk
  have O := T.own
  have Hblk := Lib.hid T.blk
  clear T
  simp at c0 c1 c2 c3 c4
  have hd : decide (limit ≤ (N.length : Int)) = true := by simpa using hl
  go_enter Try.func19, Try.ntmps19
  go_wp2_with fail
  go_quiet (fail)
  go_wp2
  go_ret
  exact ⟨rfl, ⟨a, cap, HT.out.keep ((Keep.refl NoB w).drewN nq) (fun h => h) (fun _ _ h => h)⟩, (Keep.refl _ w).drewN nq⟩

theorem rgrant_there (rb B : Nat) (a : Option Addr) (cap : Nat) (limit ticks now last : Int) (N : List RL) (s : ByteArray) (w : World) (T : RTab w B rb a cap limit ticks now last N) (hN : N.length ≤ 1000) (hl : ¬ limit ≤ N.length) (x : RL) (hx : N.find? (rhas s) = some x) :
    Calls Try.prog 19 #[.pointer (some ⟨rb, 0, none⟩), .string s] w (RPost rb B (OneB rb) limit ticks now last N (.int .i64 0) w) := by
  have HT := Lib.hid T
  have hi : ∃ i : Nat, rfind N s 0 = (i : Int) := by
    rcases rfind_cases s N 0 with ⟨h1, h2, h3⟩ | ⟨i, y, h1, h2, h3, h4, h5⟩
    · rw [h2] at hx; cases hx
    · exact ⟨_, h2⟩
  obtain ⟨i, hi⟩ := hi
  have c0 := blk_cell T.blk 0
  have c1 := blk_cell T.blk 1
  have c2 := blk_cell T.blk 2
  have c3 := blk_cell T.blk 3
  have c4 := blk_cell T.blk 4
  have f0 := blk_free T.blk 0
  have f3 := blk_free T.blk 3
  have f4 := blk_free T.blk 4
  have hlt := blk_lt T.blk
  have O := T.own
  have Hblk := Lib.hid T.blk
  clear T
  simp at c0 c1 c2 c3 c4
  have hd : decide (limit ≤ (N.length : Int)) = false := by simpa using hl
  go_enter Try.func19, Try.ntmps19
  go_wp2_with fail
  go_quiet ((go_at_call 26; exact Calls.quiet_of_same (find_any rb B a cap limit ticks now last N s _ (HT.out.keep ((Keep.refl NoB w).drewN _) (fun h => h) (fun _ _ h => h)) hN _ hi)))
  go_wp2
  go_ret
  exact ⟨rfl, ⟨a, cap, HT.out.keep ((Keep.refl NoB w).drewN nq) (fun h => h) (fun _ _ h => h)⟩, (Keep.refl _ w).drewN nq⟩

end Go.Proofs.Ytmndmgfianhbpaa
