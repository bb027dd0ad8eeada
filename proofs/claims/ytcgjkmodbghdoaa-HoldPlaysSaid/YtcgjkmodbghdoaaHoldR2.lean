/- What the reference's table of tombstones comes to: a new tombstone. -/
import Derived.Test.YtcgjkmodbghdoaaHoldR
namespace Go.Proofs.Ytcgjkmodbghdoaa
open Go Go.RowKit Go.Maps Go.Sort








set_option maxHeartbeats 4000000 in
theorem rnote_new (rb B : Nat) (a : Option Addr) (cap : Nat) (limit floor : Int) (N : List TB) (s : ByteArray) (i : Int) (w : World) (T : RT w B rb a cap limit floor N) (hB : B ≤ w.heap.size) (hN : N.length ≤ 1000) (h1 : ¬ i < 1) (hn : ∀ x, N[rplace N s]? = some x → x.1 ≠ s) (hl : (N.length : Int) < limit) :
    Calls Try.prog 17 #[.pointer (some ⟨rb, 0, none⟩), .string s, .int .i64 i] w (RNPost rb B (.slice a N.length cap) limit floor (rput N s i) w) := by
  have hd : decide (i < 1) = false := decide_eq_false h1
  have hdl : decide ((N.length : Int) < limit) = true := decide_eq_true hl
  have Hn := Lib.hid hn
  clear hn hl
  have c0 := blk_cell T.blk 0
  have c1 := blk_cell T.blk 1
  have c2 := blk_cell T.blk 2
  have hlt := blk_lt T.blk
  have hRn := T.ne
  have O := T.own
  have HT := Lib.hid T
  clear T
  simp at c0 c1 c2
  go_enter Try.func17, Try.ntmps17
  go_wp2_with fail
  go_loopw [6] (fun iv wr => ∃ k : Nat, k ≤ rplace N s ∧ iv = .int .i64 (k : Int) ∧ wr = w) (fun iv _ => rplace N s - (intOf iv).toNat)
  case atStart => exact ⟨0, Nat.zero_le _, rfl, rfl⟩
  case round =>
    obtain ⟨k, hk, rfl, rfl⟩ := hrel
    have hrl := rplace_le s N
    by_cases hkl : k < rplace N s
    · have hkn : k < N.length := by omega
      obtain ⟨x, hx⟩ : ∃ x, N[k]? = some x := ⟨_, List.getElem?_eq_getElem hkn⟩
      have hxl := tx_lt (rplace_lt s N k x hx hkl)
      obtain ⟨g, cap', hvv, hg1, hg2, hcx⟩ := O.cells tbC_len hx
      cases hvv
      have m0 := hcx 0 _ rfl
      simp only [Nat.add_zero] at m0
      obtain ⟨xs, xt⟩ := x
      simp only at hxl
      simp at m0
      clear hcx hx
      go_wp2_with fail
      go_roundw
      case rel => exact ⟨k + 1, hkl, by go_num, trivial⟩
      case measure => simp [intOf]; omega
    · have hke : k = rplace N s := by omega
      have Hke := Lib.hid hke
      clear hke hkl hrl hk
      have hcase : (k < N.length ∧ ∃ x, N[k]? = some x ∧ Op.bytesLess x.1.toList s.toList = false ∧ (x.1.toList == s.toList) = false) ∨ (¬ k < N.length ∧ decide ((k : Int) < (N.length : Int)) = false) := by
        by_cases hkn : k < N.length
        · obtain ⟨x, hx⟩ : ∃ x, N[k]? = some x := ⟨_, List.getElem?_eq_getElem hkn⟩
          have hx' := hx
          rw [Hke.out] at hx'
          exact Or.inl ⟨hkn, x, hx, tx_nlt (rplace_at s N x hx'), tx_ne (Hn.out x hx')⟩
        · exact Or.inr ⟨hkn, decide_eq_false (by omega)⟩
      rcases hcase with ⟨hkn, x, hx, hxl, hxe⟩ | ⟨hkn, hdk⟩
      · obtain ⟨g, cap', hvv, hg1, hg2, hcx⟩ := O.cells tbC_len hx
        have hlk := hcx 0 _ rfl
        simp only [Nat.add_zero] at hlk
        have Hvv := Lib.hid hvv
        obtain ⟨xs, xt⟩ := x
        simp only at hxl hxe
        simp at hlk
        cases hvv
        clear hcx hx Hvv
        go_wp2_with fail
        go_quiet (fail)
        have kz : Keep NoB wr (wr.drewN nq) := (Keep.refl NoB wr).drewN nq
        generalize wr.drewN nq = wy at kz ⊢
        have Ty := HT.out.keep0 kz
        have d0 := blk_cell Ty.blk 0
        have dl := blk_lt Ty.blk
        have Hblk := Lib.hid Ty.blk
        have HO := Lib.hid Ty.own
        have hsz := kz.size
        simp at d0
        have hkle : k ≤ N.length := by rw [Hke.out]; exact rplace_le s N
        obtain ⟨M1, hM1⟩ : ∃ l, N.take k = l := ⟨_, rfl⟩
        obtain ⟨M2, hM2⟩ : ∃ l, N.drop k = l := ⟨_, rfl⟩
        obtain ⟨N1, hN1⟩ : ∃ l, M1 ++ [(s, i)] = l := ⟨_, rfl⟩
        obtain ⟨N2, hN2⟩ : ∃ l, N1 ++ M2 = l := ⟨_, rfl⟩
        have hM1l : M1.length = k := by rw [← hM1, List.length_take]; omega
        have hM2l : M2.length = N.length - k := by rw [← hM2, List.length_drop]
        have hN1l : N1.length = k + 1 := by rw [← hN1, List.length_append, hM1l]; rfl
        have hN2l : N2.length = N.length + 1 := by rw [← hN2, List.length_append]; omega
        have hfin : rput N s i = N2 := by rw [rput_new s i N Hn.out, ← Hke.out, hM1, hM2, hN1, hN2]
        have Hfin := Lib.hid hfin
        have HN1 := Lib.hid hN1
        have HN2 := Lib.hid hN2
        have HM1 := Lib.hid hM1
        have HM2 := Lib.hid hM2
        have HM1l := Lib.hid hM1l
        have HM2l := Lib.hid hM2l
        have HN1l := Lib.hid hN1l
        have HN2l := Lib.hid hN2l
        have Hkle := Lib.hid hkle
        have Hroom := Lib.hid HO.out.room
        clear hM1 hM2 hN1 hN2 hM1l hM2l hN1l hN2l hfin Ty c0 c1 c2 O hlt
        rcases HO.out.shape2 with ⟨hA, hB, hC⟩ | ⟨g', hA, hB, hC⟩
        all_goals try (exfalso; cases hA; done)
        all_goals cases hA
        all_goals
          by_cases hcap : cap = k
          all_goals try (exfalso; have h9 : N.length = 0 := (by rw [hC]; rfl); omega)
          all_goals try (exfalso; have h9 := Hroom.out.2.1; omega)
          all_goals have HC := Lib.hid hC
          all_goals clear hC
          all_goals
            have hsub1 : ∀ c, Sub wy tbC (.slice _ k c) M1 := fun c => by rw [← HM1.out]; exact Own.take (i := k) HO.out tbC_len hkle c
            have hnc := Hroom.out.2.1
            have hcm := Hroom.out.2.2
            unfold maxLen at hcm
            have Hsub1 := Lib.hid hsub1
            clear hsub1
            go_wp2_with (first
              | (at_builtin
                 (refine wpList_append_sub rfl (.tmp 78) (.tmp 84) 42 rfl Try.underlying42 info51' (by kernel_rfl) (by decide) (by decide) rfl (Own.empty wy (Nat.le_refl _) 51 2 tbC) tbC_len tbC_one rfl ((Hsub1.out _).keep ((Keep.refl NoB wy).alloc _)) (by rw [HM1l.out]; simp; omega) (by simp) (List.nil_append M1) ?_)
                 intro a1 q1 w1 O1 k1
                 have k11 : Keep NoB wy w1 := (Own.empty wy (Nat.le_refl _) 51 2 tbC).knob ((Keep.refl NoB wy).alloc _) k1
                 have s1 := k11.size
                 clear k1
                 skip)
              | (at_builtin
                 (refine wpList_append_one rfl (.tmp 86) (.tmp 90) 42 rfl Try.underlying42 info51' (by kernel_rfl) (by decide) (by decide) rfl (O1.alloc _) tbC_len (s, i) rfl (c := #[.string s, .int .i64 i]) (t' := 51) (f := (0, 0)) (blk_new w1 _) rfl (tbC_one _) (by rw [HM1l.out]; omega) (by simp; omega) HN1.out ?_)
                 intro a2 q2 w2 O2 k2
                 have k22 : Keep NoB wy w2 := (O1.alloc _).knob (k11.alloc _) k2
                 have s2 := k22.size
                 have b2 := blk_keep Hblk.out k22 (fun h => h)
                 have x0 := blk_cell b2 0
                 have xl := blk_lt b2
                 have Hb2 := Lib.hid b2
                 simp at x0
                 clear k2 b2
                 skip)
              | (at_builtin
                 (refine wpList_append_sub rfl (.tmp 93) (.tmp 99) 42 rfl Try.underlying42 info51' (by kernel_rfl) (by decide) (by decide) rfl O2 tbC_len tbC_one rfl (by first | exact Sub.nil2 (by have := HM2l.out; exact List.eq_nil_of_length_eq_zero (by omega)) (by omega) | (have h9 := (Own.drop HO.out tbC_len k (cap - k)).keep k22; rw [HM2.out] at h9; exact h9)) (by rw [HM2l.out, HN1l.out]; omega) (by omega) HN2.out ?_)
                 intro a3 q3 w3 O3 k3
                 have k33 : Keep NoB wy w3 := O2.knob k22 k3
                 have b3 := blk_keep Hblk.out k33 (fun h => h)
                 have y0 := blk_cell b3 0
                 have yl := blk_lt b3
                 have yf := blk_free b3 0
                 have Hb3 := Lib.hid b3
                 simp at y0
                 clear k3 b3))
            go_end0
            have hb9 := blk_setCell (i := 0) Hb3.out (.slice a3 N2.length q3)
            have k9 : Keep (OneB rb) w3 (w3.setCell ⟨rb, 0, none⟩ (.slice a3 N2.length q3)) := (Keep.refl (OneB rb) w3).setCell (p := ⟨rb, 0, none⟩) (Or.inr rfl) _
            have O9 := (O3.mono (by omega : B ≤ wy.heap.size)).keep k9 (fun g hg e => O3.ne Hb3.out (by decide) g hg e)
            simp at hb9
            rw [Hfin.out]
            exact ⟨rfl, ⟨a3, q3, ⟨hb9, O9⟩⟩, ((kz.trans k33).none).setCell (p := ⟨rb, 0, none⟩) (Or.inr (Or.inl rfl)) _⟩
      · go_wp2_with fail
        go_quiet (fail)
        have kz : Keep NoB wr (wr.drewN nq) := (Keep.refl NoB wr).drewN nq
        generalize wr.drewN nq = wy at kz ⊢
        have Ty := HT.out.keep0 kz
        have d0 := blk_cell Ty.blk 0
        have dl := blk_lt Ty.blk
        have Hblk := Lib.hid Ty.blk
        have HO := Lib.hid Ty.own
        have hsz := kz.size
        simp at d0
        have hkle : k ≤ N.length := by rw [Hke.out]; exact rplace_le s N
        obtain ⟨M1, hM1⟩ : ∃ l, N.take k = l := ⟨_, rfl⟩
        obtain ⟨M2, hM2⟩ : ∃ l, N.drop k = l := ⟨_, rfl⟩
        obtain ⟨N1, hN1⟩ : ∃ l, M1 ++ [(s, i)] = l := ⟨_, rfl⟩
        obtain ⟨N2, hN2⟩ : ∃ l, N1 ++ M2 = l := ⟨_, rfl⟩
        have hM1l : M1.length = k := by rw [← hM1, List.length_take]; omega
        have hM2l : M2.length = N.length - k := by rw [← hM2, List.length_drop]
        have hN1l : N1.length = k + 1 := by rw [← hN1, List.length_append, hM1l]; rfl
        have hN2l : N2.length = N.length + 1 := by rw [← hN2, List.length_append]; omega
        have hfin : rput N s i = N2 := by rw [rput_new s i N Hn.out, ← Hke.out, hM1, hM2, hN1, hN2]
        have Hfin := Lib.hid hfin
        have HN1 := Lib.hid hN1
        have HN2 := Lib.hid hN2
        have HM1 := Lib.hid hM1
        have HM2 := Lib.hid hM2
        have HM1l := Lib.hid hM1l
        have HM2l := Lib.hid hM2l
        have HN1l := Lib.hid hN1l
        have HN2l := Lib.hid hN2l
        have Hkle := Lib.hid hkle
        have Hroom := Lib.hid HO.out.room
        clear hM1 hM2 hN1 hN2 hM1l hM2l hN1l hN2l hfin Ty c0 c1 c2 O hlt
        rcases HO.out.shape2 with ⟨hA, hB, hC⟩ | ⟨g', hA, hB, hC⟩
        all_goals try (exfalso; cases hA; done)
        all_goals cases hA
        all_goals
          by_cases hcap : cap = k
          all_goals try (exfalso; have h9 : N.length = 0 := (by rw [hC]; rfl); omega)
          all_goals try (exfalso; have h9 := Hroom.out.2.1; omega)
          all_goals have HC := Lib.hid hC
          all_goals clear hC
          all_goals
            have hsub1 : ∀ c, Sub wy tbC (.slice _ k c) M1 := fun c => by rw [← HM1.out]; exact Own.take (i := k) HO.out tbC_len hkle c
            have hnc := Hroom.out.2.1
            have hcm := Hroom.out.2.2
            unfold maxLen at hcm
            have Hsub1 := Lib.hid hsub1
            clear hsub1
            go_wp2_with (first
              | (at_builtin
                 (refine wpList_append_sub rfl (.tmp 78) (.tmp 84) 42 rfl Try.underlying42 info51' (by kernel_rfl) (by decide) (by decide) rfl (Own.empty wy (Nat.le_refl _) 51 2 tbC) tbC_len tbC_one rfl ((Hsub1.out _).keep ((Keep.refl NoB wy).alloc _)) (by rw [HM1l.out]; simp; omega) (by simp) (List.nil_append M1) ?_)
                 intro a1 q1 w1 O1 k1
                 have k11 : Keep NoB wy w1 := (Own.empty wy (Nat.le_refl _) 51 2 tbC).knob ((Keep.refl NoB wy).alloc _) k1
                 have s1 := k11.size
                 clear k1
                 skip)
              | (at_builtin
                 (refine wpList_append_one rfl (.tmp 86) (.tmp 90) 42 rfl Try.underlying42 info51' (by kernel_rfl) (by decide) (by decide) rfl (O1.alloc _) tbC_len (s, i) rfl (c := #[.string s, .int .i64 i]) (t' := 51) (f := (0, 0)) (blk_new w1 _) rfl (tbC_one _) (by rw [HM1l.out]; omega) (by simp; omega) HN1.out ?_)
                 intro a2 q2 w2 O2 k2
                 have k22 : Keep NoB wy w2 := (O1.alloc _).knob (k11.alloc _) k2
                 have s2 := k22.size
                 have b2 := blk_keep Hblk.out k22 (fun h => h)
                 have x0 := blk_cell b2 0
                 have xl := blk_lt b2
                 have Hb2 := Lib.hid b2
                 simp at x0
                 clear k2 b2
                 skip)
              | (at_builtin
                 (refine wpList_append_sub rfl (.tmp 93) (.tmp 99) 42 rfl Try.underlying42 info51' (by kernel_rfl) (by decide) (by decide) rfl O2 tbC_len tbC_one rfl (by first | exact Sub.nil2 (by have := HM2l.out; exact List.eq_nil_of_length_eq_zero (by omega)) (by omega) | (have h9 := (Own.drop HO.out tbC_len k (cap - k)).keep k22; rw [HM2.out] at h9; exact h9)) (by rw [HM2l.out, HN1l.out]; omega) (by omega) HN2.out ?_)
                 intro a3 q3 w3 O3 k3
                 have k33 : Keep NoB wy w3 := O2.knob k22 k3
                 have b3 := blk_keep Hblk.out k33 (fun h => h)
                 have y0 := blk_cell b3 0
                 have yl := blk_lt b3
                 have yf := blk_free b3 0
                 have Hb3 := Lib.hid b3
                 simp at y0
                 clear k3 b3))
            go_end0
            have hb9 := blk_setCell (i := 0) Hb3.out (.slice a3 N2.length q3)
            have k9 : Keep (OneB rb) w3 (w3.setCell ⟨rb, 0, none⟩ (.slice a3 N2.length q3)) := (Keep.refl (OneB rb) w3).setCell (p := ⟨rb, 0, none⟩) (Or.inr rfl) _
            have O9 := (O3.mono (by omega : B ≤ wy.heap.size)).keep k9 (fun g hg e => O3.ne Hb3.out (by decide) g hg e)
            simp at hb9
            rw [Hfin.out]
            exact ⟨rfl, ⟨a3, q3, ⟨hb9, O9⟩⟩, ((kz.trans k33).none).setCell (p := ⟨rb, 0, none⟩) (Or.inr (Or.inl rfl)) _⟩
end Go.Proofs.Ytcgjkmodbghdoaa
