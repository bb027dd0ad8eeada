/- The walk of MarkerOwn. -/
import Derived.Test.YtgangbkompkidaaMarkerD
namespace Go.Proofs.Ytgangbkompkidaa
open Go Go.RowKit Go.Maps Go.Sort

theorem take_one {α : Type} {N : List α} {k : Nat} {x : α} (hx : N[k]? = some x) : N.take (k + 1) = N.take k ++ [x] := by
  obtain ⟨h, e⟩ := List.getElem?_eq_some_iff.1 hx
  rw [List.take_succ_eq_append_getElem h, e]
theorem past_add {a b : Int} {M : List MK} {k : Nat} {x : MK} (hx : M[k]? = some x) : pastM a b (M.take (k + 1)) = pastM a b (M.take k) ++ (if pastP a b x = true then [] else [x]) := by
  unfold pastM
  rw [take_one hx, List.filter_append]
  congr 1
  cases h : pastP a b x <;> simp [h]
theorem past_yes {a b : Int} {M : List MK} {k : Nat} {x : MK} (hx : M[k]? = some x) (h : pastP a b x = true) : pastM a b (M.take (k + 1)) = pastM a b (M.take k) := by
  rw [past_add hx, if_pos h, List.append_nil]
theorem past_no {a b : Int} {M : List MK} {k : Nat} {x : MK} (hx : M[k]? = some x) (h : pastP a b x = false) : pastM a b (M.take (k + 1)) = pastM a b (M.take k) ++ [x] := by
  rw [past_add hx, if_neg (by rw [h]; decide)]

structure WS (wA wr : World) (M : List MK) (a b : Int) (m : Nat) (o : Value) : Prop where
  st : ∃ (W : List MK) (a' : Option Addr) (c' : Nat), o = .slice a' W.length c' ∧ Own wr wA.heap.size 37 3 mCells (.slice a' W.length c') W ∧ W.length ≤ m ∧ pastM a b (M.take m) = W


set_option maxRecDepth 100000 in
set_option maxHeartbeats 8000000 in
theorem own_walk (a0 : Option Addr) (len0 cap0 : Nat) (z : Nat → MOp) (se re : Int) (w : World) (h0 : IsOps w a0 len0 z) :
    Calls Try.prog 6 #[.slice a0 len0 cap0, .int .i64 se, .int .i64 re] w fun e w' => e = .returned (.bool true) ∧ Below w.heap.size w w' := by
  obtain ⟨hmax, hok, hrow⟩ := h0
  unfold maxLen at hmax
  have Hok0 := Lib.hid hok
  have Hrow := Lib.hid hrow
  clear hok hrow
  obtain ⟨za, hza⟩ : ∃ f : Nat → MK, (fun i => (z i).2) = f := ⟨_, rfl⟩
  have Hza := Lib.hid hza
  clear hza
  go_enter Try.func6, Try.ntmps6
  go_wp2_with fail
  refine (awake_any _).mono ?_
  rintro _ w1 ⟨rfl, hk1⟩
  go_wp2_with fail
  refine (new_any 1000 _).mono ?_
  rintro _ w2 ⟨rfl, T2, hk2, hs2⟩
  have HT2 := Lib.hid T2
  have HK2 := Lib.hid (hk1.trans hk2)
  have hlo := hk1.size
  generalize w1.heap.size + 1 = tb at HT2 ⊢
  generalize w1.heap.size = mb at HT2 hlo ⊢
  have hone := Lib.hid (show ∀ i, i < w.heap.size → OneB mb i → NoB i from fun i hi e => by have e' : i = mb := e; omega)
  clear T2 hk1 hk2 hs2
  go_wp2_with fail
  go_loopw [8] (fun i wr => ∃ k : Nat, k ≤ len0 ∧ k ≤ 200 ∧ i = .int .i64 k ∧ Tab wr tb mb 1000 (mputs za k) ∧ Keep NoB w wr) (fun i _ => len0 - (intOf i).toNat)
  case atStart => exact ⟨0, Nat.zero_le _, Nat.zero_le _, rfl, HT2.out, HK2.out⟩
  case round =>
    clear HT2 HK2
    obtain ⟨k, hk, hk200, rfl, T, K⟩ := hrel
    by_cases hgo : k < len0 ∧ k < 200
    · obtain ⟨hlt, h200⟩ := hgo
      have h200i : decide ((k : Int) < 200) = true := by simp; omega
      rcases Hrow.out with h | ⟨b, off, rfl, hb, hc⟩
      · omega
      obtain ⟨_, l1, l2, l3⟩ := hc k hlt
      have ha : za k = (z k).2 := by rw [← Hza.out]
      have hopk := Hok0.out k hlt
      unfold opOk at hopk
      rw [← ha] at hopk l1 l2 l3
      replace l1 := K.some l1 (fun h => h)
      replace l2 := K.some l2 (fun h => h)
      replace l3 := K.some l3 (fun h => h)
      have hb0 : b < wr.heap.size := Nat.lt_of_lt_of_le hb K.size
      have hbm : b ≠ mb := by omega
      have Hpa : mputs za (k + 1) = mput (za k) (mputs za k) := rfl
      have hla := mputs_len za k
      obtain ⟨A', hA'⟩ : ∃ l, mputs za (k + 1) = l := ⟨_, rfl⟩
      rw [hA'] at Hpa
      have HA' := Lib.hid hA'
      obtain ⟨x, hx⟩ : ∃ x, za k = x := ⟨_, rfl⟩
      rw [hx] at l1 l2 l3 hopk Hpa
      replace Hpa := Lib.hid Hpa.symm
      clear hx ha hc hb hA'
      obtain ⟨s, sa, sr⟩ := x
      simp only at l1 l2 l3
      have Hx := Lib.hid hopk
      have HS := Lib.hid (show wr.cell? ⟨b, off + k * 4 + 1, none⟩ = some (.string s) ∧ wr.cell? ⟨b, off + k * 4 + 2, none⟩ = some (.int .i64 sa) ∧ wr.cell? ⟨b, off + k * 4 + 3, none⟩ = some (.int .i64 sr) from ⟨l1, l2, l3⟩)
      have HT := Lib.hid T
      have HK := Lib.hid K
      clear l1 l2 l3 hopk T K
      go_wp2_with fail
      refine wp_region_pl (fun q => q.cell? ⟨b, off + k * 4 + 1, none⟩ = some (.string s) ∧ q.cell? ⟨b, off + k * 4 + 2, none⟩ = some (.int .i64 sa) ∧ q.cell? ⟨b, off + k * 4 + 3, none⟩ = some (.int .i64 sr)) [] (.rd 0 (.rd 1 (.rd 2 (.rd 3 (.rd 4 (.rd 5 (.rd 6 (.rd 7 (.rd 8 (.rd 9 (.rd 10 (.rd 11 (.rd 12 (.rd 13 (.rd 14 (.rd 15 (.one 16 (.rd 17 .done)))))))))))))))))) (by kernel_rfl) (by kernel_rfl) (by kernel_rfl) (by kernel_rfl) (by intro c b d v u h; cases d <;> exact h) ?_
      have kd0 : Keep NoB wr wr.drew := (Keep.refl NoB wr).drew
      have HT0 := Lib.hid (HT.out.keep kd0 (fun h => h) (fun h => h))
      have HK0 := Lib.hid (HK.out.trans kd0)
      have HS0 := Lib.hid (ks3 HS.out kd0)
      clear kd0 HS HT HK
      first
        | refine pl_get (i := 0) rfl rfl HS0.out rfl (fun u hu => by (try dsimp only at hu); go_simp; rfl) (by simp only [List.setIfInBounds_toArray, List.set_cons_succ, List.set_cons_zero]; rfl) ?_
        | refine pl_skip (i := 0) rfl rfl HS0.out rfl (by simp only [List.setIfInBounds_toArray, List.set_cons_succ, List.set_cons_zero]; rfl) ?_
      first
        | refine pl_get (i := 1) rfl rfl HS0.out rfl (fun u hu => by (try dsimp only at hu); go_simp; rfl) (by simp only [List.setIfInBounds_toArray, List.set_cons_succ, List.set_cons_zero]; rfl) ?_
        | refine pl_skip (i := 1) rfl rfl HS0.out rfl (by simp only [List.setIfInBounds_toArray, List.set_cons_succ, List.set_cons_zero]; rfl) ?_
      first
        | refine pl_get (i := 2) rfl rfl HS0.out rfl (fun u hu => by (try dsimp only at hu); go_simp; rfl) (by simp only [List.setIfInBounds_toArray, List.set_cons_succ, List.set_cons_zero]; rfl) ?_
        | refine pl_skip (i := 2) rfl rfl HS0.out rfl (by simp only [List.setIfInBounds_toArray, List.set_cons_succ, List.set_cons_zero]; rfl) ?_
      first
        | refine pl_get (i := 3) rfl rfl HS0.out rfl (fun u hu => by (try dsimp only at hu); go_simp; rfl) (by simp only [List.setIfInBounds_toArray, List.set_cons_succ, List.set_cons_zero]; rfl) ?_
        | refine pl_skip (i := 3) rfl rfl HS0.out rfl (by simp only [List.setIfInBounds_toArray, List.set_cons_succ, List.set_cons_zero]; rfl) ?_
      first
        | refine pl_get (i := 4) rfl rfl HS0.out rfl (fun u hu => by (try dsimp only at hu); go_simp; rfl) (by simp only [List.setIfInBounds_toArray, List.set_cons_succ, List.set_cons_zero]; rfl) ?_
        | refine pl_skip (i := 4) rfl rfl HS0.out rfl (by simp only [List.setIfInBounds_toArray, List.set_cons_succ, List.set_cons_zero]; rfl) ?_
      first
        | refine pl_get (i := 5) rfl rfl HS0.out rfl (fun u hu => by (try dsimp only at hu); go_simp; rfl) (by simp only [List.setIfInBounds_toArray, List.set_cons_succ, List.set_cons_zero]; rfl) ?_
        | refine pl_skip (i := 5) rfl rfl HS0.out rfl (by simp only [List.setIfInBounds_toArray, List.set_cons_succ, List.set_cons_zero]; rfl) ?_
      first
        | refine pl_get (i := 6) rfl rfl HS0.out rfl (fun u hu => by (try dsimp only at hu); go_simp; rfl) (by simp only [List.setIfInBounds_toArray, List.set_cons_succ, List.set_cons_zero]; rfl) ?_
        | refine pl_skip (i := 6) rfl rfl HS0.out rfl (by simp only [List.setIfInBounds_toArray, List.set_cons_succ, List.set_cons_zero]; rfl) ?_
      first
        | refine pl_get (i := 7) rfl rfl HS0.out rfl (fun u hu => by (try dsimp only at hu); go_simp; rfl) (by simp only [List.setIfInBounds_toArray, List.set_cons_succ, List.set_cons_zero]; rfl) ?_
        | refine pl_skip (i := 7) rfl rfl HS0.out rfl (by simp only [List.setIfInBounds_toArray, List.set_cons_succ, List.set_cons_zero]; rfl) ?_
      first
        | refine pl_get (i := 8) rfl rfl HS0.out rfl (fun u hu => by (try dsimp only at hu); go_simp; rfl) (by simp only [List.setIfInBounds_toArray, List.set_cons_succ, List.set_cons_zero]; rfl) ?_
        | refine pl_skip (i := 8) rfl rfl HS0.out rfl (by simp only [List.setIfInBounds_toArray, List.set_cons_succ, List.set_cons_zero]; rfl) ?_
      first
        | refine pl_get (i := 9) rfl rfl HS0.out rfl (fun u hu => by (try dsimp only at hu); go_simp; rfl) (by simp only [List.setIfInBounds_toArray, List.set_cons_succ, List.set_cons_zero]; rfl) ?_
        | refine pl_skip (i := 9) rfl rfl HS0.out rfl (by simp only [List.setIfInBounds_toArray, List.set_cons_succ, List.set_cons_zero]; rfl) ?_
      first
        | refine pl_get (i := 10) rfl rfl HS0.out rfl (fun u hu => by (try dsimp only at hu); go_simp; rfl) (by simp only [List.setIfInBounds_toArray, List.set_cons_succ, List.set_cons_zero]; rfl) ?_
        | refine pl_skip (i := 10) rfl rfl HS0.out rfl (by simp only [List.setIfInBounds_toArray, List.set_cons_succ, List.set_cons_zero]; rfl) ?_
      first
        | refine pl_get (i := 11) rfl rfl HS0.out rfl (fun u hu => by (try dsimp only at hu); go_simp; rfl) (by simp only [List.setIfInBounds_toArray, List.set_cons_succ, List.set_cons_zero]; rfl) ?_
        | refine pl_skip (i := 11) rfl rfl HS0.out rfl (by simp only [List.setIfInBounds_toArray, List.set_cons_succ, List.set_cons_zero]; rfl) ?_
      first
        | refine pl_get (i := 12) rfl rfl HS0.out rfl (fun u hu => by (try dsimp only at hu); go_simp; rfl) (by simp only [List.setIfInBounds_toArray, List.set_cons_succ, List.set_cons_zero]; rfl) ?_
        | refine pl_skip (i := 12) rfl rfl HS0.out rfl (by simp only [List.setIfInBounds_toArray, List.set_cons_succ, List.set_cons_zero]; rfl) ?_
      first
        | refine pl_get (i := 13) rfl rfl HS0.out rfl (fun u hu => by (try dsimp only at hu); go_simp; rfl) (by simp only [List.setIfInBounds_toArray, List.set_cons_succ, List.set_cons_zero]; rfl) ?_
        | refine pl_skip (i := 13) rfl rfl HS0.out rfl (by simp only [List.setIfInBounds_toArray, List.set_cons_succ, List.set_cons_zero]; rfl) ?_
      first
        | refine pl_get (i := 14) rfl rfl HS0.out rfl (fun u hu => by (try dsimp only at hu); go_simp; rfl) (by simp only [List.setIfInBounds_toArray, List.set_cons_succ, List.set_cons_zero]; rfl) ?_
        | refine pl_skip (i := 14) rfl rfl HS0.out rfl (by simp only [List.setIfInBounds_toArray, List.set_cons_succ, List.set_cons_zero]; rfl) ?_
      first
        | refine pl_get (i := 15) rfl rfl HS0.out rfl (fun u hu => by (try dsimp only at hu); go_simp; rfl) (by simp only [List.setIfInBounds_toArray, List.set_cons_succ, List.set_cons_zero]; rfl) ?_
        | refine pl_skip (i := 15) rfl rfl HS0.out rfl (by simp only [List.setIfInBounds_toArray, List.set_cons_succ, List.set_cons_zero]; rfl) ?_
      refine pl_one (i := 16) rfl ?_
      go_wp2_with ((go_at_call 12; refine (set_any tb mb 1000 (mputs za k) s sa sr _ HT0.out Hx.out (mputs_rise za k) (by unfold maxLen; omega) true (decide_eq_true (Or.inr (by omega))) A' (by rw [msetM_ok (by omega), Hpa.out])).mono ?_; rintro _ w5 ⟨rfl, T5, k5⟩))
      have HS5 := Lib.hid (show w5.cell? ⟨b, off + k * 4 + 1, none⟩ = some (.string s) ∧ w5.cell? ⟨b, off + k * 4 + 2, none⟩ = some (.int .i64 sa) ∧ w5.cell? ⟨b, off + k * 4 + 3, none⟩ = some (.int .i64 sr) from ⟨k5.some HS0.out.1 (fun e => hbm e), k5.some HS0.out.2.1 (fun e => hbm e), k5.some HS0.out.2.2 (fun e => hbm e)⟩)
      have HT5 := Lib.hid T5
      have HK5 := Lib.hid (HK0.out.trans' k5 hone.out)
      clear T5 k5 HS0 HT0 HK0
      refine pl_next (fun _ => HS5.out) ?_
      first
        | refine pl_get (i := 17) rfl rfl HS5.out rfl (fun u hu => by (try dsimp only at hu); go_simp; rfl) (by simp only [List.setIfInBounds_toArray, List.set_cons_succ, List.set_cons_zero]; rfl) ?_
        | refine pl_skip (i := 17) rfl rfl HS5.out rfl (by simp only [List.setIfInBounds_toArray, List.set_cons_succ, List.set_cons_zero]; rfl) ?_
      refine pl_done ?_
      clear HS5
      go_wp2_with fail
      go_roundw
      case rel => exact ⟨k + 1, hlt, h200, by go_num, by rw [HA'.out]; exact HT5.out, HK5.out⟩
      case measure => simp [intOf]; omega
    · have hout : (¬ k < len0 ∧ decide ((k : Int) < (len0 : Int)) = false) ∨ (k < len0 ∧ ¬ k < 200 ∧ decide ((k : Int) < 200) = false) := by
        by_cases h1 : k < len0
        · right
          have : ¬ k < 200 := fun h => hgo ⟨h1, h⟩
          exact ⟨h1, this, by simp; omega⟩
        · left
          exact ⟨h1, by simp; omega⟩
      have HT := Lib.hid T
      have HK := Lib.hid K
      have hlM := mputs_len za k
      have hrM := mputs_rise za k
      obtain ⟨M, hMM⟩ : ∃ l, mputs za k = l := ⟨_, rfl⟩
      rw [hMM] at HT hlM hrM
      have Hr := Lib.hid hrM
      have hlM2 : M.length ≤ 200 := by omega
      clear hgo T K hMM hrM
      rcases hout with ⟨h1, hd⟩ | ⟨h1, h2, hd⟩
      all_goals
        clear hlM
        go_wp2_with fail
        refine (all_any tb mb 1000 M _ HT.out (by omega) Hr.out).mono ?_
        rintro _ wA ⟨aa, ac, rfl, Oa, ka⟩
        have HOa := Lib.hid Oa
        have HTA := Lib.hid (HT.out.keep ka (fun h => h) (fun h => h))
        have HKA := Lib.hid (HK.out.trans ka)
        clear Oa ka
        go_wp2_with fail
        go_loopw [9, 50] (fun o i wx => ∃ m : Nat, m ≤ M.length ∧ i = .int .i64 m ∧ WS wA wx M se re m o ∧ Keep NoB wA wx) (fun _ i _ => M.length - (intOf i).toNat)
        case atStart => exact ⟨0, Nat.zero_le _, rfl, ⟨⟨[], none, 0, rfl, Own.nil _ _ _ _ _, Nat.le_refl _, rfl⟩⟩, Keep.refl _ _⟩
        case round =>
          obtain ⟨m, hm, rfl, ⟨⟨W, a', c', rfl, OW, hWl, hW⟩⟩, km⟩ := hrel
          have HOW := Lib.hid OW
          have HW := Lib.hid hW
          clear OW hW
          by_cases hml : m < M.length
          · obtain ⟨x, hx⟩ : ∃ x, M[m]? = some x := ⟨_, List.getElem?_eq_getElem hml⟩
            have hxM := List.mem_of_getElem? hx
            have Htr := Lib.hid (show decide (∃ y ∈ M, y.1 = x.1) = true from decide_eq_true ⟨x, hxM, rfl⟩)
            clear hxM
            obtain ⟨v, hv⟩ : ∃ v, pastP se re x = v := ⟨_, rfl⟩
            cases v
            · -- stays
              have HW2 := Lib.hid (past_no hx hv)
              rw [HW.out] at HW2
              obtain ⟨W2, hW2⟩ : ∃ l, W ++ [x] = l := ⟨_, rfl⟩
              have HW2l := Lib.hid (show W2.length = W.length + 1 from by rw [← hW2]; simp)
              rw [hW2] at HW2
              have Oax := HOa.out.keep km (fun _ _ h => h)
              obtain ⟨g, cg, hvv, hg1, hg2, hcx⟩ := Oax.cells mCells_len hx
              cases hvv
              have r0 := hcx 0 _ rfl
              have r1 := hcx 1 _ rfl
              have r2 := hcx 2 _ rfl
              simp only [Nat.add_zero] at r0
              have Hkm := Lib.hid km
              have Hx := Lib.hid hx
              obtain ⟨x0, x1, x2⟩ := x
              simp at r0 r1 r2
              clear hcx Oax hx km
              have HHW2 := Lib.hid hW2
              have hc2 : ((x1 != se) = true) ∨ ((x1 != se) = false ∧ decide (re < x2) = true) := by
                unfold pastP at hv
                by_cases h : x1 = se
                · right
                  simp [h] at hv
                  exact ⟨by simpa using h, decide_eq_true (by omega)⟩
                · left
                  simpa using h
              clear hv hW2
              rcases hc2 with e1 | ⟨e1, e2⟩
              all_goals
                have HO2 := Lib.hid HOW.out
                go_wp2_with (first
                  | (at_builtin
                     refine wpList_append_one (B := wA.heap.size) rfl (.tmp 69) (.tmp 74) 34 rfl Try.underlying34 info37' (by kernel_rfl) (by decide) (by decide) rfl (HOW.out.alloc _) mCells_len (x0, x1, x2) rfl (c := #[.string x0, .int .i64 x1, .int .i64 x2]) (t' := 37) (f := (0, 0)) (blk_new wr _) rfl (mCells_one _) (by omega) (by have := Hkm.out.size; simp; omega) HHW2.out ?_
                     intro a4 c4 w4 O4 k4
                     have K4 : Keep NoB wA w4 := (HOW.out.alloc _).knob (Hkm.out.alloc _) k4
                     have HO4 := Lib.hid O4
                     have Oa4 := HOa.out.keep K4 (fun _ _ h => h)
                     clear k4 O4 r0 r1 r2
                     obtain ⟨g, cg, hvv, hg1, hg2, hcx⟩ := Oa4.cells mCells_len Hx.out
                     cases hvv
                     have r0 := hcx 0 _ rfl
                     (try simp only [Nat.add_zero] at r0)
                     (try simp at r0)
                     have HK4 := Lib.hid K4
                     clear hcx Oa4 K4))
                refine (has_any tb mb 1000 M x0 _ (HTA.out.keep HK4.out (fun h => h) (fun h => h)) true Htr.out).mono ?_
                rintro _ w8 ⟨rfl, k8⟩
                have HO8 := Lib.hid (HO4.out.keep k8 (fun _ _ h => h))
                have HK8 := Lib.hid (HK4.out.trans k8)
                clear k8
                go_wp2_with fail
                go_roundw
                case rel => exact ⟨m + 1, hml, by go_num, ⟨⟨W2, a4, c4, rfl, HO8.out, by have := HW2l.out; omega, HW2.out⟩⟩, HK8.out⟩
                case measure => simp [intOf]; omega
            · have HW2 := Lib.hid (past_yes hx hv)
              rw [HW.out] at HW2
              have Oax := HOa.out.keep km (fun _ _ h => h)
              obtain ⟨g, cg, hvv, hg1, hg2, hcx⟩ := Oax.cells mCells_len hx
              cases hvv
              have r0 := hcx 0 _ rfl
              have r1 := hcx 1 _ rfl
              have r2 := hcx 2 _ rfl
              simp only [Nat.add_zero] at r0
              have Hkm := Lib.hid km
              have Hx := Lib.hid hx
              obtain ⟨x0, x1, x2⟩ := x
              simp at r0 r1 r2
              clear hcx Oax hx km
              have e1 : (x1 != se) = false := by
                unfold pastP at hv
                have := of_decide_eq_true hv
                simpa using this.1
              have e2 : decide (re < x2) = false := by
                unfold pastP at hv
                have := of_decide_eq_true hv
                exact decide_eq_false (by have := this.2; simp only at this; omega)
              clear hv
              go_wp2_with fail
              refine (has_any tb mb 1000 M x0 _ (HTA.out.keep Hkm.out (fun h => h) (fun h => h)) true Htr.out).mono ?_
              rintro _ w8 ⟨rfl, k8⟩
              have HO8 := Lib.hid (HOW.out.keep k8 (fun _ _ h => h))
              have HK8 := Lib.hid (Hkm.out.trans k8)
              clear k8 r0 r1 r2
              go_wp2_with fail
              go_roundw
              case rel => exact ⟨m + 1, hml, by go_num, ⟨⟨W, a', c', rfl, HO8.out, by omega, HW2.out⟩⟩, HK8.out⟩
              case measure => simp [intOf]; omega
          · have hd2 : decide ((m : Int) < (M.length : Int)) = false := decide_eq_false (by omega)
            have hWM : pastM se re M = W := by
              have := HW.out
              rw [List.take_of_length_le (by omega)] at this
              exact this
            have HTx := Lib.hid (HTA.out.keep km (fun h => h) (fun h => h))
            have HKx := Lib.hid (HKA.out.trans km)
            have HOx := Lib.hid (HOa.out.keep km (fun _ _ h => h))
            have HWM := Lib.hid hWM
            have hWl2 : W.length ≤ M.length := by rw [← hWM]; exact List.length_filter_le _ _
            have hfw : ∀ g, (Value.slice a' W.length c').ownBlock = some g → g ≠ mb := by
              obtain ⟨L, h, _⟩ := HTx.out.map
              exact fun g hg e => HOW.out.ne_map h g hg e
            have Hfw := Lib.hid hfw
            clear km hWM hfw hm
            go_wp2_with fail
            refine (past_any tb mb 1000 M _ HTx.out (by omega) Hr.out se re).mono ?_
            rintro _ w6 ⟨rfl, T6, k6⟩
            rw [HWM.out] at T6 ⊢
            have HT6 := Lib.hid T6
            have HO6 := Lib.hid (HOW.out.keep k6 (fun g hg e => Hfw.out g hg e))
            have HK6 := Lib.hid (HKx.out.trans' k6 hone.out)
            have HrW := Lib.hid (show RiseM W from by rw [← HWM.out]; exact rise_filter' Hr.out _)
            clear T6 k6
            go_wp2_with fail
            refine (all_any tb mb 1000 W _ HT6.out (by omega) HrW.out).mono ?_
            rintro _ w7 ⟨la, lc, rfl, O7, k7⟩
            have HT7 := Lib.hid (HT6.out.keep k7 (fun h => h) (fun h => h))
            have HO7 := Lib.hid O7
            have HW7 := Lib.hid (HO6.out.keep k7 (fun _ _ h => h))
            have HK7 := Lib.hid (HK6.out.trans k7)
            have hwr : IntKind.i64.wrap ((M.length : Int) - (W.length : Int)) = (M.length : Int) - (W.length : Int) := by rw [IntKind.wrap_i64]; omega
            clear O7 k7
            go_wp2_with fail
            refine (len_any tb mb 1000 W _ HT7.out).mono ?_
            rintro _ w9 ⟨rfl, rfl⟩
            go_wp2_with fail
            go_loopw [114] (fun i wx => ∃ q : Nat, q ≤ W.length ∧ i = .int .i64 q ∧ Keep NoB w9 wx) (fun i _ => W.length - (intOf i).toNat)
            case atStart => exact ⟨0, Nat.zero_le _, rfl, Keep.refl _ _⟩
            case round =>
              obtain ⟨q, hq, rfl, kq⟩ := hrel
              by_cases hql : q < W.length
              · obtain ⟨x, hx⟩ : ∃ x, W[q]? = some x := ⟨_, List.getElem?_eq_getElem hql⟩
                have Oax := HO7.out.keep kq (fun _ _ h => h)
                have Obx := HW7.out.keep kq (fun _ _ h => h)
                obtain ⟨g, cg, hvv, hg1, hg2, hcx⟩ := Oax.cells mCells_len hx
                cases hvv
                obtain ⟨g', cg', hvv', hg1', hg2', hcx'⟩ := Obx.cells mCells_len hx
                cases hvv'
                have r0 := hcx 0 _ rfl
                have r1 := hcx 1 _ rfl
                have r2 := hcx 2 _ rfl
                have q0 := hcx' 0 _ rfl
                have q1 := hcx' 1 _ rfl
                have q2 := hcx' 2 _ rfl
                simp only [Nat.add_zero] at r0 q0
                have Hkq := Lib.hid kq
                obtain ⟨x0, x1, x2⟩ := x
                simp at r0 r1 r2 q0 q1 q2
                clear hcx hcx' Oax Obx hx kq
                go_wp2_with fail
                go_quiet (fail)
                go_wp2_with fail
                go_roundw
                case rel => exact ⟨q + 1, hql, by go_num, Hkq.out.drewN _⟩
                case measure => simp [intOf]; omega
              · have hd3 : decide ((q : Int) < (W.length : Int)) = false := decide_eq_false (by omega)
                have HKf := Lib.hid (HK7.out.trans kq)
                clear kq
                go_wp2
                go_ret
                exact ⟨rfl, HKf.out.below (fun _ _ h => h)⟩
end Go.Proofs.Ytgangbkompkidaa
