/- What the reference's table of tombstones comes to: Pass, Allows, Same; the table that is nil. -/
import Derived.Test.YtcgjkmodbghdoaaHoldR2
namespace Go.Proofs.Ytcgjkmodbghdoaa
open Go Go.RowKit Go.Maps Go.Sort

theorem take_one {α : Type} {N : List α} {k : Nat} {x : α} (hx : N[k]? = some x) : N.take (k + 1) = N.take k ++ [x] := by
  obtain ⟨h, e⟩ := List.getElem?_eq_some_iff.1 hx
  rw [List.take_succ_eq_append_getElem h, e]

theorem rnote_any (rb B : Nat) (a : Option Addr) (cap : Nat) (limit floor : Int) (N : List TB) (s : ByteArray) (i : Int) (w : World) (T : RT w B rb a cap limit floor N) (hB : B ≤ w.heap.size) (hN : N.length ≤ 1000) (N' : List TB) (fl' : Int) (h : NoteCase limit floor N s i N' fl') :
    Calls Try.prog 17 #[.pointer (some ⟨rb, 0, none⟩), .string s, .int .i64 i] w (RNPost rb B (.slice a N.length cap) limit fl' N' w) := by
  cases h with
  | zero h => exact rnote_zero rb B a cap limit floor N s i w T h
  | there h x hx hs => exact rnote_there rb B a cap limit floor N s i w T hN h x hx hs _ rfl
  | new h hn hl => exact rnote_new rb B a cap limit floor N s i w T hB hN h hn hl
  | full h hn hl => exact rnote_full rb B a cap limit floor N s i w T hN h hn hl _ rfl

/-- Two slices of the same texts are the same. -/
theorem same_any (B1 B2 : Nat) (a1 a2 : Option Addr) (c1 c2 : Nat) (l : List ByteArray) (w : World) (h1 : Own w B1 9 1 cS (.slice a1 l.length c1) l) (h2 : Own w B2 9 1 cS (.slice a2 l.length c2) l) (hl : l.length ≤ 1000000) :
    Calls Try.prog 22 #[.slice a1 l.length c1, .slice a2 l.length c2] w fun e w' => e = .returned (.bool true) ∧ Keep NoB w w' := by
  have H1 := Lib.hid h1
  have H2 := Lib.hid h2
  clear h1 h2
  go_enter Try.func22, Try.ntmps22
  go_wp2_with fail
  go_loopw [5] (fun i wr => ∃ m : Nat, m ≤ l.length ∧ i = .int .i64 m ∧ Keep NoB w wr) (fun i _ => l.length - (intOf i).toNat)
  case atStart => exact ⟨0, Nat.zero_le _, rfl, Keep.refl _ _⟩
  case round =>
    obtain ⟨m, hm, rfl, hk⟩ := hrel
    by_cases hml : m < l.length
    · obtain ⟨x, hx⟩ : ∃ x, l[m]? = some x := ⟨_, List.getElem?_eq_getElem hml⟩
      obtain ⟨b1, e1, _, hb1, m1, _⟩ := (H1.out.keep hk (fun _ _ h => h)).cell1 cS_len hx rfl
      obtain ⟨b2, e2, _, hb2, m2, _⟩ := (H2.out.keep hk (fun _ _ h => h)).cell1 cS_len hx rfl
      cases e1
      cases e2
      clear hx
      go_wp2_with fail
      go_quiet (fail)
      go_wp2_with fail
      go_roundw
      case rel => exact ⟨m + 1, hml, by go_num, hk.drewN _⟩
      case measure => simp [intOf]; omega
    · have hd : decide ((m : Int) < (l.length : Int)) = false := decide_eq_false (by omega)
      go_wp2_with fail
      go_ret
      exact ⟨rfl, hk⟩

def passN (N : List TB) (i : Int) : List TB := N.filter (fun x => decide (i < x.2))
theorem passN_add (N : List TB) (i : Int) (x : TB) : passN (N ++ [x]) i = if i < x.2 then passN N i ++ [x] else passN N i := by
  unfold passN
  rw [List.filter_append]
  by_cases h : i < x.2 <;> simp [h]

set_option maxHeartbeats 2000000 in
theorem rpass_any (rb B : Nat) (a : Option Addr) (cap : Nat) (limit floor : Int) (N : List TB) (i : Int) (w : World) (T : RT w B rb a cap limit floor N) (hB : B ≤ w.heap.size) (hN : N.length ≤ 1000) (V : List TB) (hV : passN N i = V) (fl' : Int) (hf : (floor ≤ i ∧ fl' = 0) ∨ (i < floor ∧ fl' = floor)) :
    Calls Try.prog 18 #[.pointer (some ⟨rb, 0, none⟩), .int .i64 i] w fun e w' => e = .returned (.int .i64 ((N.length : Int) - (V.length : Int))) ∧ (∃ a cap, RT w' B rb a cap limit fl' V) ∧ Keep (OneB rb) w w' := by
  have HV := Lib.hid hV
  have HT := Lib.hid T
  have hlt := blk_lt T.blk
  have O0 := Own.empty w (Nat.le_refl _) 51 2 tbC
  have HO0 := Lib.hid O0
  have hf' : (decide (floor ≤ i) = true ∧ fl' = 0) ∨ (decide (floor ≤ i) = false ∧ fl' = floor) := by
    rcases hf with ⟨h, e⟩ | ⟨h, e⟩
    · exact Or.inl ⟨decide_eq_true h, e⟩
    · exact Or.inr ⟨decide_eq_false (by omega), e⟩
  have Hf := Lib.hid hf'
  clear hV T O0 hf hf'
  go_enter Try.func18, Try.ntmps18
  go_wp2_with fail
  go_loopw [5, 6] (fun o iv wr => ∃ (k : Nat) (M : List TB) (a' : Option Addr) (c' : Nat), k ≤ N.length ∧ iv = .int .i64 (k : Int) ∧ o = .slice a' M.length c' ∧ Own wr w.heap.size 51 2 tbC (.slice a' M.length c') M ∧ M.length ≤ k ∧ passN (N.take k) i = M ∧ Keep NoB w wr) (fun _ iv _ => N.length - (intOf iv).toNat)
  case atStart => exact ⟨0, [], _, 0, Nat.zero_le _, rfl, rfl, HO0.out, Nat.le_refl _, rfl, (Keep.refl NoB w).alloc _⟩
  case round =>
    obtain ⟨k, M, a', c', hk, rfl, rfl, O', hMk, hM, kr⟩ := hrel
    have HM := Lib.hid hM
    have Tr := HT.out.keep0 kr
    have c0 := blk_cell Tr.blk 0
    have c2 := blk_cell Tr.blk 2
    have f0 := blk_free Tr.blk 0
    have f2 := blk_free Tr.blk 2
    have hl := blk_lt Tr.blk
    have HTr := Lib.hid Tr
    have hsz := kr.size
    clear hM Tr
    simp at c0 c2
    by_cases hlt2 : k < N.length
    · obtain ⟨x, hx⟩ : ∃ x, N[k]? = some x := ⟨_, List.getElem?_eq_getElem hlt2⟩
      obtain ⟨g, cap', hvv, hg1, hg2, hcx⟩ := HTr.out.own.cells tbC_len hx
      cases hvv
      have hnext := passN_add (N.take k) i x
      rw [← take_one hx, HM.out] at hnext
      obtain ⟨xs, xt⟩ := x
      have m0 := hcx 0 _ rfl
      have m1 := hcx 1 _ rfl
      simp only [Nat.add_zero] at m0
      simp only at hnext
      simp at m0 m1
      clear hcx hx
      by_cases hxi : i < xt
      · rw [if_pos hxi] at hnext
        have hd1 : decide (i < xt) = true := decide_eq_true hxi
        obtain ⟨M', hM'⟩ : ∃ l, M ++ [(xs, xt)] = l := ⟨_, rfl⟩
        have hM'l : M'.length = M.length + 1 := by rw [← hM']; simp
        rw [hM'] at hnext
        have Hnext := Lib.hid hnext
        have HM' := Lib.hid hM'
        have HM'l := Lib.hid hM'l
        have HO' := Lib.hid O'
        clear hnext hM' hM'l O'
        go_wp2_with (first
          | (at_builtin
             refine wpList_append_one rfl (.tmp 28) (.tmp 36) 42 rfl Try.underlying42 info51' (by kernel_rfl) (by decide) (by decide) rfl (HO'.out.alloc _) tbC_len (xs, xt) rfl (c := #[.string xs, .int .i64 xt]) (t' := 51) (f := (0, 0)) (blk_new wr _) rfl (tbC_one _) (by omega) (by simp; omega) HM'.out ?_
             intro a4 c4 w4 O4 k4
             have K4 : Keep NoB w w4 := (HO'.out.alloc _).knob (kr.alloc _) k4))
        go_roundw
        case rel => exact ⟨k + 1, M', a4, c4, hlt2, by go_num, rfl, O4, by have := HM'l.out; omega, Hnext.out, K4⟩
        case measure => simp [intOf]; omega
      · rw [if_neg hxi] at hnext
        have hd1 : decide (i < xt) = false := decide_eq_false hxi
        have Hnext := Lib.hid hnext
        clear hnext
        go_wp2_with fail
        go_roundw
        case rel => exact ⟨k + 1, M, a', c', hlt2, by go_num, rfl, O', by omega, Hnext.out, kr⟩
        case measure => simp [intOf]; omega
    · have hd : decide ((k : Int) < (N.length : Int)) = false := decide_eq_false (by omega)
      have hMV : M = V := by rw [← HM.out, List.take_of_length_le (by omega), HV.out]
      subst hMV
      have hne : ∀ g, (Value.slice a' M.length c').ownBlock = some g → g ≠ rb := O'.ne HTr.out.blk (by decide)
      have k9 : Keep (OneB rb) wr (wr.setCell ⟨rb, 0, none⟩ (.slice a' M.length c')) := (Keep.refl (OneB rb) wr).setCell (p := ⟨rb, 0, none⟩) (Or.inr rfl) _
      have b9 := blk_setCell (i := 0) HTr.out.blk (.slice a' M.length c')
      simp at b9
      have O9 := (O'.mono (by omega : B ≤ w.heap.size)).keep k9 (fun g hg e => hne g hg e)
      have Hb9 := Lib.hid b9
      have HO9 := Lib.hid O9
      clear b9 O9
      rcases Hf.out with ⟨hdf, rfl⟩ | ⟨hdf, rfl⟩
      · go_wp2
        go_ret
        have k10 : Keep (OneB rb) (wr.setCell ⟨rb, 0, none⟩ (.slice a' M.length c')) ((wr.setCell ⟨rb, 0, none⟩ (.slice a' M.length c')).setCell ⟨rb, 2, none⟩ (.int .i64 0)) := (Keep.refl (OneB rb) _).setCell (p := ⟨rb, 2, none⟩) (Or.inr rfl) _
        have b10 := blk_setCell (i := 2) Hb9.out (.int .i64 0)
        simp at b10
        exact ⟨rfl, ⟨a', c', ⟨b10, HO9.out.keep k10 (fun g hg e => hne g hg e)⟩⟩, (kr.none.trans k9).trans k10⟩
      · go_wp2
        go_ret
        exact ⟨rfl, ⟨a', c', ⟨Hb9.out, HO9.out⟩⟩, kr.none.trans k9⟩

set_option maxHeartbeats 2000000 in
theorem rallows_any (rb B : Nat) (a : Option Addr) (cap : Nat) (limit floor : Int) (N : List TB) (s : ByteArray) (i : Int) (w : World) (T : RT w B rb a cap limit floor N) (hN : N.length ≤ 1000) (v : Bool) (h1 : (∃ x ∈ N, x.1 = s ∧ i < x.2) → v = false) (h2 : (∀ x ∈ N, ¬ (x.1 = s ∧ i < x.2)) → decide (floor ≤ i) = v) :
    Calls Try.prog 19 #[.pointer (some ⟨rb, 0, none⟩), .string s, .int .i64 i] w fun e w' => e = .returned (.bool v) ∧ w' = w := by
  have H1 := Lib.hid h1
  have H2 := Lib.hid h2
  have c0 := blk_cell T.blk 0
  have c2 := blk_cell T.blk 2
  have hlt := blk_lt T.blk
  have O := T.own
  simp at c0 c2
  clear h1 h2 T
  go_enter Try.func19, Try.ntmps19
  go_wp2_with fail
  go_loopw [7] (fun iv wr => ∃ k : Nat, k ≤ N.length ∧ iv = .int .i64 (k : Int) ∧ (∀ x ∈ N.take k, ¬ (x.1 = s ∧ i < x.2)) ∧ wr = w) (fun iv _ => N.length - (intOf iv).toNat)
  case atStart => exact ⟨0, Nat.zero_le _, rfl, by simp, rfl⟩
  case round =>
    obtain ⟨k, hk, rfl, hall, rfl⟩ := hrel
    have Hall := Lib.hid hall
    clear hall
    by_cases hlt2 : k < N.length
    · obtain ⟨x, hx⟩ : ∃ x, N[k]? = some x := ⟨_, List.getElem?_eq_getElem hlt2⟩
      obtain ⟨g, cap', hvv, hg1, hg2, hcx⟩ := O.cells tbC_len hx
      cases hvv
      have hmem := List.mem_of_getElem? hx
      have htk := take_one hx
      obtain ⟨xs, xt⟩ := x
      have m0 := hcx 0 _ rfl
      have m1 := hcx 1 _ rfl
      simp only [Nat.add_zero] at m0
      simp at m0 m1
      have Hmem := Lib.hid hmem
      have Htk := Lib.hid htk
      clear hcx hx hmem htk
      by_cases hxs : xs = s
      · subst hxs
        have hq1 : (xs.toList == xs.toList) = true := by simp
        by_cases hxi : i < xt
        · have hd1 : decide (i < xt) = true := decide_eq_true hxi
          have hvf : v = false := H1.out ⟨(xs, xt), Hmem.out, rfl, hxi⟩
          subst hvf
          go_wp2
          go_ret
          exact ⟨rfl, rfl⟩
        · have hd1 : decide (i < xt) = false := decide_eq_false hxi
          have hnext : ∀ x ∈ N.take (k + 1), ¬ (x.1 = xs ∧ i < x.2) := by
            rw [Htk.out]
            intro y hy
            rcases List.mem_append.1 hy with hy | hy
            · exact Hall.out y hy
            · rw [List.mem_singleton.1 hy]
              exact fun h => hxi h.2
          have Hnext := Lib.hid hnext
          clear hnext
          go_wp2_with fail
          go_roundw
          case rel => exact ⟨k + 1, hlt2, by go_num, Hnext.out, trivial⟩
          case measure => simp [intOf]; omega
      · have hq1 := tx_ne hxs
        have hnext : ∀ x ∈ N.take (k + 1), ¬ (x.1 = s ∧ i < x.2) := by
          rw [Htk.out]
          intro y hy
          rcases List.mem_append.1 hy with hy | hy
          · exact Hall.out y hy
          · rw [List.mem_singleton.1 hy]
            exact fun h => hxs h.1
        have Hnext := Lib.hid hnext
        clear hnext
        go_wp2_with fail
        go_roundw
        case rel => exact ⟨k + 1, hlt2, by go_num, Hnext.out, trivial⟩
        case measure => simp [intOf]; omega
    · have hd : decide ((k : Int) < (N.length : Int)) = false := decide_eq_false (by omega)
      have hv := H2.out (by have := Hall.out; rw [List.take_of_length_le (by omega)] at this; exact this)
      go_wp2
      go_ret
      exact ⟨rfl, rfl⟩

set_option maxHeartbeats 2000000 in
theorem rsame_any (rb B B1 : Nat) (a : Option Addr) (cap : Nat) (limit floor : Int) (N : List TB) (V : List ByteArray) (hV : N.map (·.1) = V) (a1 : Option Addr) (c1 : Nat) (w : World) (T : RT w B rb a cap limit floor N) (h1 : Own w B1 9 1 cS (.slice a1 V.length c1) V) (hN : N.length ≤ 1000) :
    Calls Try.prog 20 #[.pointer (some ⟨rb, 0, none⟩), .slice a1 V.length c1] w fun e w' => e = .returned (.bool true) ∧ Keep NoB w w' := by
  have hVl : V.length = N.length := by rw [← hV]; simp
  have HV := Lib.hid hV
  have HVl := Lib.hid hVl
  have HT := Lib.hid T
  have hlt := blk_lt T.blk
  have O0 := Own.empty w (Nat.le_refl _) 9 1 cS
  have HO0 := Lib.hid O0
  have Hv := Lib.hid h1
  clear hV hVl T O0 h1
  go_enter Try.func20, Try.ntmps20
  go_wp2_with fail
  go_loopw [5, 6] (fun o iv wr => ∃ (k : Nat) (M : List ByteArray) (a' : Option Addr) (c' : Nat), k ≤ N.length ∧ iv = .int .i64 (k : Int) ∧ o = .slice a' M.length c' ∧ Own wr w.heap.size 9 1 cS (.slice a' M.length c') M ∧ M.length = k ∧ (N.take k).map (·.1) = M ∧ Keep NoB w wr) (fun _ iv _ => N.length - (intOf iv).toNat)
  case atStart => exact ⟨0, [], _, 0, Nat.zero_le _, rfl, rfl, HO0.out, rfl, rfl, (Keep.refl NoB w).alloc _⟩
  case round =>
    obtain ⟨k, M, a', c', hk, rfl, rfl, O', hMk, hM, kr⟩ := hrel
    have HM := Lib.hid hM
    have HMk := Lib.hid hMk
    have Tr := HT.out.keep0 kr
    have c0 := blk_cell Tr.blk 0
    have hl := blk_lt Tr.blk
    have HTr := Lib.hid Tr
    have hsz := kr.size
    clear hM Tr hMk
    simp at c0
    by_cases hlt2 : k < N.length
    · obtain ⟨x, hx⟩ : ∃ x, N[k]? = some x := ⟨_, List.getElem?_eq_getElem hlt2⟩
      obtain ⟨g, cap', hvv, hg1, hg2, hcx⟩ := HTr.out.own.cells tbC_len hx
      cases hvv
      have hnext : (N.take (k + 1)).map (·.1) = M ++ [x.1] := by rw [take_one hx, List.map_append, HM.out]; rfl
      obtain ⟨xs, xt⟩ := x
      have m0 := hcx 0 _ rfl
      simp only [Nat.add_zero] at m0
      simp only at hnext
      obtain ⟨M', hM'⟩ : ∃ l, M ++ [xs] = l := ⟨_, rfl⟩
      have hM'l : M'.length = k + 1 := by rw [← hM', List.length_append, HMk.out]; rfl
      rw [hM'] at hnext
      have Hnext := Lib.hid hnext
      have HM' := Lib.hid hM'
      have HM'l := Lib.hid hM'l
      have HO' := Lib.hid O'
      clear hcx hx hnext hM' hM'l O'
      go_wp2_with (first
        | (at_builtin
           refine wpList_append_one rfl (.tmp 17) (.tmp 26) 38 rfl Try.underlying38 info9' (by kernel_rfl) (by decide) (by decide) rfl (HO'.out.alloc _) cS_len xs rfl (c := #[.string xs]) (t' := 9) (f := (0, 0)) (blk_new wr _) rfl (cS_one _) (by have := HMk.out; omega) (by simp; omega) HM'.out ?_
           intro a4 c4 w4 O4 k4
           have K4 : Keep NoB w w4 := (HO'.out.alloc _).knob (kr.alloc _) k4))
      go_roundw
      case rel => exact ⟨k + 1, M', a4, c4, hlt2, by go_num, rfl, O4, HM'l.out, Hnext.out, K4⟩
      case measure => simp [intOf]; omega
    · have hd : decide ((k : Int) < (N.length : Int)) = false := decide_eq_false (by omega)
      have hMV : M = V := by rw [← HM.out, List.take_of_length_le (by omega), HV.out]
      subst hMV
      go_wp2_with fail
      refine (same_any _ _ a1 a' c1 c' M _ (Hv.out.keep kr (fun _ _ h => h)) O' (by have := HVl.out; omega)).mono ?_
      rintro _ w5 ⟨rfl, k5⟩
      go_wp2
      go_ret
      exact ⟨rfl, kr.trans k5⟩

/-! ### nil -/
theorem nnote_any (s : ByteArray) (i : Int) (w : World) : Calls Try.prog 10 #[.pointer none, .string s, .int .i64 i] w fun e w' => e = .returned (.tuple #[]) ∧ w' = w := by
  go_enter Try.func10, Try.ntmps10
  go_wp2
  refine bodyPost_ret (results_none rfl _ _ _) rfl ?_
  exact ⟨rfl, rfl⟩
theorem npass_any (i : Int) (w : World) : Calls Try.prog 11 #[.pointer none, .int .i64 i] w fun e w' => e = .returned (.int .i64 0) ∧ w' = w := by
  go_enter Try.func11, Try.ntmps11
  go_wp2
  go_ret
  exact ⟨rfl, rfl⟩
theorem nclear_any (w : World) : Calls Try.prog 12 #[.pointer none] w fun e w' => e = .returned (.tuple #[]) ∧ w' = w := by
  go_enter Try.func12, Try.ntmps12
  go_wp2
  go_end0
  exact ⟨rfl, rfl⟩
theorem nallows_any (s : ByteArray) (i : Int) (w : World) : Calls Try.prog 13 #[.pointer none, .string s, .int .i64 i] w fun e w' => e = .returned (.bool true) ∧ w' = w := by
  go_enter Try.func13, Try.ntmps13
  go_wp2
  go_ret
  exact ⟨rfl, rfl⟩
theorem nfloor_any (w : World) : Calls Try.prog 14 #[.pointer none] w fun e w' => e = .returned (.int .i64 0) ∧ w' = w := by
  go_enter Try.func14, Try.ntmps14
  go_wp2
  go_ret
  exact ⟨rfl, rfl⟩
theorem nlen_any (w : World) : Calls Try.prog 15 #[.pointer none] w fun e w' => e = .returned (.int .i64 0) ∧ w' = w := by
  go_enter Try.func15, Try.ntmps15
  go_wp2
  go_ret
  exact ⟨rfl, rfl⟩
theorem nkeys_any (w : World) : Calls Try.prog 16 #[.pointer none] w fun e w' => e = .returned (.slice none 0 0) ∧ w' = w := by
  have hcon := Any.slices_Sort_string_none Try.laysSort none 0 w
  change Calls Try.prog 21 _ _ _ at hcon
  go_enter Try.func16, Try.ntmps16
  go_wp2_with fail
  refine hcon.mono ?_
  rintro _ w ⟨rfl, rfl⟩
  go_wp2
  go_ret
  exact ⟨rfl, rfl⟩
end Go.Proofs.Ytcgjkmodbghdoaa
