/- The walk of LinkLeaves. -/
import Derived.Test.YtbaojfjabhgohaaLinkG
import Derived.OpenShut
namespace Go.Proofs.Ytbaojfjabhgohaa
open Go Go.RowKit Go.Maps

/-- Below its blocks a net doesn't care. -/
theorem Net.above {w w' : World} {B nb : Nat} {a : Option Addr} {cap : Nat} {room sent : Int} {N : List HE} {S : Nat → Prop} (T : Net w B nb a cap room sent N) (hnb : B ≤ nb) (hk : Keep S w w') (hS : ∀ k, S k → k < B) : Net w' B nb a cap room sent N :=
  T.keep hk (fun e => by have := hS _ e; omega) (fun g hg e => by have := hS _ e; have := T.row.fresh g hg; omega) (fun x hx g hg e => by have := hS _ e; have := (T.each x hx).1.fresh g hg; omega)

theorem len_is {w : World} {B nb : Nat} {a : Option Addr} {cap : Nat} {room sent : Int} {N : List HE} (T : Net w B nb a cap room sent N) (n : Int) (hn : (N.length : Int) = n) :
    Calls Try.prog 12 #[.pointer (some ⟨nb, 0, none⟩)] w fun e w' => e = .returned (.int .i64 n) ∧ w' = w := by
  subst hn
  exact len_any B nb a cap room sent N w T

theorem SN_lt {w : World} {B nb : Nat} {a : Option Addr} {cap : Nat} {room sent : Int} {N : List HE} (T : Net w B nb a cap room sent N) {m : Nat} (hm : w.heap.size ≤ m) : ∀ k, SN nb (.slice a N.length cap) k → k < m := by
  intro k hk
  rcases hk with rfl | hk
  · exact Nat.lt_of_lt_of_le (blk_lt T.blk) hm
  · exact Nat.lt_of_lt_of_le (T.row.lt k hk) hm


set_option maxRecDepth 100000 in
set_option maxHeartbeats 20000000 in
theorem leaves_walk (a0 : Option Addr) (len0 cap0 : Nat) (z : Nat → TX) (i0 : Int) (dbl : Bool) (w : World) (h0 : IsTx w a0 len0 z) :
    Calls Try.prog 4 #[.slice a0 len0 cap0, .int .i64 i0, .bool dbl] w fun e w' => e = .returned (.bool true) ∧ Below w.heap.size w w' := by
  have H0 := Lib.hid h0
  clear h0
  go_enter Try.func4, Try.ntmps4
  go_wp2_with fail
  refine (awake_any _).mono ?_
  rintro _ w1 ⟨rfl, hk1⟩
  go_wp2_with fail
  refine (great_any a0 len0 cap0 z _ (H0.out.keep hk1)).mono ?_
  rintro _ _ ⟨rfl, rfl | ⟨rfl, hsm⟩⟩
  · go_wp2
    go_ret
    exact ⟨rfl, hk1.below (fun _ _ h => h)⟩
  have HSm := Lib.hid hsm
  have h100 := hsm.1
  clear hsm
  go_wp2_with fail
  refine (packets_any a0 len0 cap0 z _ (H0.out.keep hk1) HSm.out).mono ?_
  rintro _ w2 ⟨nb1, a1, c1, N1, rfl, hnb1, T1, hN1, hP1, hk2⟩
  have hkk2 : Keep NoB w w2 := hk1.trans hk2
  have HN1 := Lib.hid hN1
  have HP1 := Lib.hid hP1
  clear hN1 hP1
  go_wp2_with fail
  refine (packets_any a0 len0 cap0 z _ (H0.out.keep hkk2) HSm.out).mono ?_
  rintro _ w3 ⟨nb2, a2, c2, N2, rfl, hnb2, T2, hN2, hP2, hk3⟩
  have HN2 := Lib.hid hN2
  have HP2 := Lib.hid hP2
  have Hlt2 := Lib.hid (SN_lt T1 (Nat.le_refl _))
  have T1 := T1.keep0 hk3
  have HK3 := Lib.hid (hkk2.trans hk3)
  have hB1 : w.heap.size ≤ w1.heap.size := hk1.size
  have hB2 : w1.heap.size ≤ w2.heap.size := hk2.size
  have hB3 : w2.heap.size ≤ w3.heap.size := hk3.size
  have l1 : N1.length ≤ len0 := by rw [HN1.out]; exact Nat.le_refl _
  have l1' : len0 ≤ N1.length := by rw [HN1.out]; exact Nat.le_refl _
  have l2 : N2.length ≤ len0 := by rw [HN2.out]; exact Nat.le_refl _
  have l2' : len0 ≤ N2.length := by rw [HN2.out]; exact Nat.le_refl _
  clear hN2 hP2 hk3 hk2 hkk2 hk1
  have hlen0 := HN1.out
  subst hlen0
  generalize w1.heap.size = B1 at *
  generalize w2.heap.size = B2 at *
  go_wp2_with fail
  refine (len_any B1 nb1 a1 c1 1000 N1.length N1 _ T1).mono ?_
  rintro _ _ ⟨rfl, rfl⟩
  by_cases hin : 0 ≤ i0 ∧ i0 < (N1.length : Int)
  · obtain ⟨i, rfl⟩ : ∃ i : Nat, i0 = (i : Int) := ⟨i0.toNat, by omega⟩
    have hi : i < N1.length := by omega
    have hi2 : i < N2.length := by omega
    obtain ⟨x, hx⟩ : ∃ x, N1[i]? = some x := ⟨_, List.getElem?_eq_getElem hi⟩
    obtain ⟨y, hy⟩ : ∃ y, N2[i]? = some y := ⟨_, List.getElem?_eq_getElem hi2⟩
    have HX := Lib.hid hx
    have HY := Lib.hid hy
    have d1 : decide (0 ≤ (i : Int)) = true := by simp
    have d2 : decide ((i : Int) < (N1.length : Int)) = true := by simp; omega
    have d3 : decide ((i : Int) < 0) = false := by simp
    have d4 : decide ((N1.length : Int) ≤ (i : Int)) = false := by simp; omega
    clear hx hy hin
    obtain ⟨xf, xt, xa, xc, xn, xl⟩ := x
    obtain ⟨yf, yt, ya, yc, yn, yl⟩ := y
    obtain ⟨h1, h2, h3, h4⟩ := HP1.out i _ HX.out
    obtain ⟨h5, h6, h7, h8⟩ := HP2.out i _ HY.out
    simp only at h1 h2 h3 h4 h5 h6 h7 h8
    subst h1 h2 h3 h4 h5 h6 h7 h8
    have hsl := HSm.out.2 i hi
    generalize hL : (z i).l = L at *
    have HL := Lib.hid hL
    clear hL
    cases dbl
    · as_aux_lemma =>
      go_wp2_with fail
      refine (take_in B1 nb1 a1 c1 1000 N1.length N1 i _ _ T1 (by omega) HX.out (by omega)).mono ?_
      rintro _ w4 ⟨a4, c4, g4, rfl, hg4, R4, T4, k4⟩
      have K4 : Keep NoB w w4 := HK3.out.trans' k4 (fun j hj e => by have := SN_out T1 hnb1 j e; omega)
      have T24 := T2.above hnb2 k4 Hlt2.out
      have s4 := k4.size
      simp only at R4
      clear k4 T1 T2
      go_wp2_with fail
      have T24' := T24.keep0 ((Keep.refl NoB w4).alloc (Obj.cells #[Value.int IntKind.i64 ((i : Int)), Value.int IntKind.i64 ((i : Int) + 1), Value.slice (some ⟨g4, 0, none⟩) (L.length) (L.length)] 32))
      have T4' := T4.keep0 ((Keep.refl NoB w4).alloc (Obj.cells #[Value.int IntKind.i64 ((i : Int)), Value.int IntKind.i64 ((i : Int) + 1), Value.slice (some ⟨g4, 0, none⟩) (L.length) (L.length)] 32))
      have K4' := K4.alloc (Obj.cells #[Value.int IntKind.i64 ((i : Int)), Value.int IntKind.i64 ((i : Int) + 1), Value.slice (some ⟨g4, 0, none⟩) (L.length) (L.length)] 32)
      have R4' := R4.alloc (Obj.cells #[Value.int IntKind.i64 ((i : Int)), Value.int IntKind.i64 ((i : Int) + 1), Value.slice (some ⟨g4, 0, none⟩) (L.length) (L.length)] 32)
      have b4 := blk_new w4 (Obj.cells #[Value.int IntKind.i64 ((i : Int)), Value.int IntKind.i64 ((i : Int) + 1), Value.slice (some ⟨g4, 0, none⟩) (L.length) (L.length)] 32)
      refine (look_in B2 nb2 a2 c2 1000 N1.length N2 i _ _ T24' HY.out).mono ?_
      rintro _ w5 ⟨g5, rfl, hg5, R5, k5⟩
      simp only at R5
      have K5 : Keep NoB w w5 := K4'.trans k5
      have T25 := T24'.keep0 k5
      have T45 := T4'.keep0 k5
      have hs1 : (convert 27 9 (.slice (some ⟨g4, 0, none⟩) L.length L.length)).run Try.prog (w5.alloc (Obj.cells #[Value.int IntKind.i64 ((i : Int)), Value.int IntKind.i64 ((i : Int) + 1), Value.slice (some ⟨g5, 0, none⟩) (L.length) (L.length)] 32)) = .ok (.string ⟨L.toArray⟩) (w5.alloc (Obj.cells #[Value.int IntKind.i64 ((i : Int)), Value.int IntKind.i64 ((i : Int) + 1), Value.slice (some ⟨g5, 0, none⟩) (L.length) (L.length)] 32)) := ((R4'.keep k5 (fun _ _ h => h)).alloc _).rd.str
      have hs2 : (convert 27 9 (.slice (some ⟨g5, 0, none⟩) L.length L.length)).run Try.prog (w5.alloc (Obj.cells #[Value.int IntKind.i64 ((i : Int)), Value.int IntKind.i64 ((i : Int) + 1), Value.slice (some ⟨g5, 0, none⟩) (L.length) (L.length)] 32)) = .ok (.string ⟨L.toArray⟩) (w5.alloc (Obj.cells #[Value.int IntKind.i64 ((i : Int)), Value.int IntKind.i64 ((i : Int) + 1), Value.slice (some ⟨g5, 0, none⟩) (L.length) (L.length)] 32)) := (R5.alloc _).rd.str
      have b5 := blk_keep b4 k5 (fun h => h)
      have p0 := blk_cell b5 0
      have p1 := blk_cell b5 1
      have p2 := blk_cell b5 2
      have p3 := blk_lt b5
      simp at p0 p1 p2
      have s5 := k5.size
      clear b4 b5 k5 R4' R4 R5 T24 T24' T4 T4' K4 K4'
      go_wp2_with fail
      have T26 := T25.keep0 ((Keep.refl NoB w5).alloc (Obj.cells #[Value.int IntKind.i64 ((i : Int)), Value.int IntKind.i64 ((i : Int) + 1), Value.slice (some ⟨g5, 0, none⟩) (L.length) (L.length)] 32))
      have T46 := T45.keep0 ((Keep.refl NoB w5).alloc (Obj.cells #[Value.int IntKind.i64 ((i : Int)), Value.int IntKind.i64 ((i : Int) + 1), Value.slice (some ⟨g5, 0, none⟩) (L.length) (L.length)] 32))
      have K6 := K5.alloc (Obj.cells #[Value.int IntKind.i64 ((i : Int)), Value.int IntKind.i64 ((i : Int) + 1), Value.slice (some ⟨g5, 0, none⟩) (L.length) (L.length)] 32)
      clear hs1 hs2 p0 p1 p2 p3 K5 T25 T45
      generalize World.alloc w5 (Obj.cells #[Value.int IntKind.i64 ((i : Int)), Value.int IntKind.i64 ((i : Int) + 1), Value.slice (some ⟨g5, 0, none⟩) (L.length) (L.length)] 32) = W at T26 T46 K6 ⊢
      clear s5 s4 hg4 hg5 d1 d2 d3 d4
      go_loopw [18] (fun kk wx => ∃ kn : Nat, kn + 1 ≤ N1.length ∧ kk = .int .i64 kn ∧ Keep NoB W wx) (fun kk _ => N1.length - (intOf kk).toNat)
      case atStart => exact ⟨0, by omega, rfl, Keep.refl _ _⟩
      case round =>
        obtain ⟨kn, hkn, rfl, hkx⟩ := hrel
        by_cases hkl : kn + 1 < N1.length
        · have d1 : decide ((kn : Int) < (N1.length : Int) - 1) = true := by simp; omega
          obtain ⟨j, hj, hjn, d2⟩ : ∃ j : Nat, ((i ≤ kn ∧ j = kn + 1) ∨ (kn < i ∧ j = kn)) ∧ j < N1.length ∧ ((i ≤ kn ∧ decide (i ≤ kn) = true ∧ kn + 1 = j) ∨ (kn < i ∧ decide (i ≤ kn) = false ∧ kn = j)) := by
            by_cases h : i ≤ kn
            · exact ⟨kn + 1, Or.inl ⟨h, rfl⟩, by omega, Or.inl ⟨h, by simp; omega, rfl⟩⟩
            · exact ⟨kn, Or.inr ⟨by omega, rfl⟩, by omega, Or.inr ⟨by omega, by simp; omega, rfl⟩⟩
          obtain ⟨u, hu⟩ : ∃ u, N1[j]? = some u := ⟨_, List.getElem?_eq_getElem hjn⟩
          obtain ⟨v, hv⟩ : ∃ v, N2[j]? = some v := ⟨_, List.getElem?_eq_getElem (by omega)⟩
          have huk : (N1.take i ++ N1.drop (i + 1))[kn]? = some u := by
            rcases hj with ⟨h1, rfl⟩ | ⟨h1, rfl⟩
            · rw [List.getElem?_append_right (by simp; omega), List.getElem?_drop, ← hu]
              congr 1
              simp
              omega
            · rw [List.getElem?_append_left (by simp; omega), List.getElem?_take_of_lt h1, hu]
          have q1 := HP1.out j _ hu
          have q2 := HP2.out j _ hv
          obtain ⟨uf, ut, ua, uc, un, ul⟩ := u
          obtain ⟨vf, vt, va, vc, vn, vl⟩ := v
          obtain ⟨h1, h2, h3, h4⟩ := q1
          obtain ⟨h5, h6, h7, h8⟩ := q2
          simp only at h1 h2 h3 h4 h5 h6 h7 h8
          have e1 : vf = uf := h5.trans h1.symm
          have e2 : vt = ut := h6.trans h2.symm
          have e3 : vl = ul := h8.trans h4.symm
          subst e1 e2 e3
          have HU := Lib.hid huk
          have HV := Lib.hid hv
          clear huk hu hv hj h1 h2 h3 h4 h5 h6 h7 h8
          have TT1 := T46.keep0 hkx
          have TT2 := T26.keep0 hkx
          rcases d2 with ⟨d2, d5, hjk⟩ | ⟨d2, d5, hjk⟩ <;> subst hjk
          all_goals
            go_wp2_with fail
            refine (look_in B1 nb1 a4 c4 1000 N1.length _ kn _ _ TT1 HU.out).mono ?_
            rintro _ w7 ⟨g7, rfl, hg7, R7, k7⟩
            simp only at R7
            go_wp2_with fail
            have TT3 := (TT2.keep0 k7).keep0 ((Keep.refl NoB w7).alloc (Obj.cells #[Value.int IntKind.i64 (vf), Value.int IntKind.i64 (vt), Value.slice (some ⟨g7, 0, none⟩) (vl.length) (vl.length)] 32))
            have K7 := (hkx.trans k7).alloc (Obj.cells #[Value.int IntKind.i64 (vf), Value.int IntKind.i64 (vt), Value.slice (some ⟨g7, 0, none⟩) (vl.length) (vl.length)] 32)
            have R7' := R7.alloc (Obj.cells #[Value.int IntKind.i64 (vf), Value.int IntKind.i64 (vt), Value.slice (some ⟨g7, 0, none⟩) (vl.length) (vl.length)] 32)
            have b7 := blk_new w7 (Obj.cells #[Value.int IntKind.i64 (vf), Value.int IntKind.i64 (vt), Value.slice (some ⟨g7, 0, none⟩) (vl.length) (vl.length)] 32)
            clear k7 R7 TT1 TT2
            refine (look_in B2 nb2 a2 c2 1000 N1.length _ _ _ _ TT3 HV.out).mono ?_
            rintro _ w8 ⟨g8, rfl, hg8, R8, k8⟩
            simp only at R8
            have hs1 : (convert 27 9 (.slice (some ⟨g7, 0, none⟩) vl.length vl.length)).run Try.prog (w8.alloc (Obj.cells #[Value.int IntKind.i64 (vf), Value.int IntKind.i64 (vt), Value.slice (some ⟨g8, 0, none⟩) (vl.length) (vl.length)] 32)) = .ok (.string ⟨vl.toArray⟩) (w8.alloc (Obj.cells #[Value.int IntKind.i64 (vf), Value.int IntKind.i64 (vt), Value.slice (some ⟨g8, 0, none⟩) (vl.length) (vl.length)] 32)) := ((R7'.keep k8 (fun _ _ h => h)).alloc _).rd.str
            have hs2 : (convert 27 9 (.slice (some ⟨g8, 0, none⟩) vl.length vl.length)).run Try.prog (w8.alloc (Obj.cells #[Value.int IntKind.i64 (vf), Value.int IntKind.i64 (vt), Value.slice (some ⟨g8, 0, none⟩) (vl.length) (vl.length)] 32)) = .ok (.string ⟨vl.toArray⟩) (w8.alloc (Obj.cells #[Value.int IntKind.i64 (vf), Value.int IntKind.i64 (vt), Value.slice (some ⟨g8, 0, none⟩) (vl.length) (vl.length)] 32)) := (R8.alloc _).rd.str
            have b8 := blk_keep b7 k8 (fun h => h)
            have K8 := (K7.trans k8).alloc (Obj.cells #[Value.int IntKind.i64 (vf), Value.int IntKind.i64 (vt), Value.slice (some ⟨g8, 0, none⟩) (vl.length) (vl.length)] 32)
            have p0 := blk_cell b8 0
            have p1 := blk_cell b8 1
            have p2 := blk_cell b8 2
            have p3 := blk_lt b8
            simp at p0 p1 p2
            clear b7 b8 k8 R7' R8 TT3 K7 hg7 hg8
            go_wp2_with fail
            go_roundw
            case rel => exact ⟨kn + 1, by omega, by go_num, K8⟩
            case measure => simp [intOf]; omega
        · have d1 : decide ((kn : Int) < (N1.length : Int) - 1) = false := by simp; omega
          have hle : (N1.take i ++ N1.drop (i + 1)).length + 1 = N1.length := by simp; omega
          have Hle := Lib.hid hle
          clear hle
          go_wp2_with fail
          refine (len_is (T46.keep0 hkx) ((N1.length : Int) - 1) (by have := Hle.out; omega)).mono ?_
          rintro _ _ ⟨rfl, rfl⟩
          go_wp2_with fail
          refine (sent_any B1 nb1 a4 c4 1000 N1.length _ _ (T46.keep0 hkx)).mono ?_
          rintro _ _ ⟨rfl, rfl⟩
          go_wp2
          go_ret
          exact ⟨rfl, (K6.trans hkx).below (fun _ _ h => h)⟩
    · as_aux_lemma =>
      go_wp2_with fail
      refine (double_ok B1 nb1 a1 c1 1000 N1.length N1 i _ _ T1 (by omega) HX.out (by omega) (by omega)).mono ?_
      rintro _ w4 ⟨a4, c4, g4, rfl, T4, k4⟩
      have K4 : Keep NoB w w4 := HK3.out.trans' k4 (fun j hj e => by have := SN_out T1 hnb1 j e; omega)
      have hx4 := HX.out
      rw [← List.getElem?_append_left (l₂ := [(⟨(i : Int), (i : Int) + 1, some ⟨g4, 0, none⟩, L.length, false, L⟩ : HE)]) hi] at hx4
      have HX4 := Lib.hid hx4
      have HY4 := Lib.hid (show (N1 ++ [(⟨(i : Int), (i : Int) + 1, some ⟨g4, 0, none⟩, L.length, false, L⟩ : HE)])[N1.length]? = some ⟨(i : Int), (i : Int) + 1, some ⟨g4, 0, none⟩, L.length, false, L⟩ by simp)
      clear k4 T1 T2 hx4
      go_wp2_with fail
      refine (look_in B1 nb1 a4 c4 1000 N1.length _ i _ _ T4 HX4.out).mono ?_
      rintro _ w5 ⟨g5, rfl, hg5, R5, k5⟩
      simp only at R5
      go_wp2_with fail
      have T5 := (T4.keep0 k5).keep0 ((Keep.refl NoB w5).alloc (Obj.cells #[Value.int IntKind.i64 ((i : Int)), Value.int IntKind.i64 ((i : Int) + 1), Value.slice (some ⟨g5, 0, none⟩) (L.length) (L.length)] 32))
      have K5 := (K4.trans k5).alloc (Obj.cells #[Value.int IntKind.i64 ((i : Int)), Value.int IntKind.i64 ((i : Int) + 1), Value.slice (some ⟨g5, 0, none⟩) (L.length) (L.length)] 32)
      have R5' := R5.alloc (Obj.cells #[Value.int IntKind.i64 ((i : Int)), Value.int IntKind.i64 ((i : Int) + 1), Value.slice (some ⟨g5, 0, none⟩) (L.length) (L.length)] 32)
      have b5 := blk_new w5 (Obj.cells #[Value.int IntKind.i64 ((i : Int)), Value.int IntKind.i64 ((i : Int) + 1), Value.slice (some ⟨g5, 0, none⟩) (L.length) (L.length)] 32)
      clear k5 T4 K4 R5
      refine (look_in B1 nb1 a4 c4 1000 N1.length _ N1.length _ _ T5 HY4.out).mono ?_
      rintro _ w6 ⟨g6, rfl, hg6, R6, k6⟩
      simp only at R6
      have T6 := (T5.keep0 k6).keep0 ((Keep.refl NoB w6).alloc (Obj.cells #[Value.int IntKind.i64 ((i : Int)), Value.int IntKind.i64 ((i : Int) + 1), Value.slice (some ⟨g6, 0, none⟩) (L.length) (L.length)] 32))
      have hs1 : (convert 27 9 (.slice (some ⟨g5, 0, none⟩) L.length L.length)).run Try.prog (w6.alloc (Obj.cells #[Value.int IntKind.i64 ((i : Int)), Value.int IntKind.i64 ((i : Int) + 1), Value.slice (some ⟨g6, 0, none⟩) (L.length) (L.length)] 32)) = .ok (.string ⟨L.toArray⟩) (w6.alloc (Obj.cells #[Value.int IntKind.i64 ((i : Int)), Value.int IntKind.i64 ((i : Int) + 1), Value.slice (some ⟨g6, 0, none⟩) (L.length) (L.length)] 32)) := ((R5'.keep k6 (fun _ _ h => h)).alloc _).rd.str
      have hs2 : (convert 27 9 (.slice (some ⟨g6, 0, none⟩) L.length L.length)).run Try.prog (w6.alloc (Obj.cells #[Value.int IntKind.i64 ((i : Int)), Value.int IntKind.i64 ((i : Int) + 1), Value.slice (some ⟨g6, 0, none⟩) (L.length) (L.length)] 32)) = .ok (.string ⟨L.toArray⟩) (w6.alloc (Obj.cells #[Value.int IntKind.i64 ((i : Int)), Value.int IntKind.i64 ((i : Int) + 1), Value.slice (some ⟨g6, 0, none⟩) (L.length) (L.length)] 32)) := (R6.alloc _).rd.str
      have K6 := (K5.trans k6).alloc (Obj.cells #[Value.int IntKind.i64 ((i : Int)), Value.int IntKind.i64 ((i : Int) + 1), Value.slice (some ⟨g6, 0, none⟩) (L.length) (L.length)] 32)
      have b6 := blk_keep b5 k6 (fun h => h)
      have p0 := blk_cell b6 0
      have p1 := blk_cell b6 1
      have p2 := blk_cell b6 2
      have p3 := blk_lt b6
      simp at p0 p1 p2
      clear b5 b6 k6 R5' R6 T5 K5
      go_wp2_with fail
      refine (len_is T6 ((N1.length : Int) + 1) (by simp)).mono ?_
      rintro _ _ ⟨rfl, rfl⟩
      go_wp2
      go_ret
      exact ⟨rfl, K6.below (fun _ _ h => h)⟩
  · have hout : i0 < 0 ∨ (N1.length : Int) ≤ i0 := by omega
    have hout2 : i0 < 0 ∨ (N2.length : Int) ≤ i0 := by omega
    have HO1 := Lib.hid hout
    have HO2 := Lib.hid hout2
    have hdd : (decide (0 ≤ i0) = false ∧ decide (i0 < 0) = true) ∨ (decide (0 ≤ i0) = true ∧ decide (i0 < (N1.length : Int)) = false ∧ decide (i0 < 0) = false ∧ decide ((N1.length : Int) ≤ i0) = true) := by
      by_cases h : i0 < 0
      · left; simp; omega
      · right; simp; omega
    clear hin hout hout2
    cases dbl
    · as_aux_lemma =>
      rcases hdd with ⟨d1, d2⟩ | ⟨d1, d2, d3, d4⟩
      all_goals
        go_wp2_with fail
        refine (take_out B1 nb1 a1 c1 1000 N1.length N1 i0 _ T1 HO1.out).mono ?_
        rintro _ w4 ⟨rfl, k4⟩
        go_wp2_with fail
        have T24 := (T2.keep0 k4).keep0 ((Keep.refl NoB w4).alloc (Obj.cells #[Value.int IntKind.i64 0, Value.int IntKind.i64 0, Value.slice none 0 0] 32))
        have T14 := (T1.keep0 k4).keep0 ((Keep.refl NoB w4).alloc (Obj.cells #[Value.int IntKind.i64 0, Value.int IntKind.i64 0, Value.slice none 0 0] 32))
        have K4 := (HK3.out.trans k4).alloc (Obj.cells #[Value.int IntKind.i64 0, Value.int IntKind.i64 0, Value.slice none 0 0] 32)
        have b4 := blk_new w4 (Obj.cells #[Value.int IntKind.i64 0, Value.int IntKind.i64 0, Value.slice none 0 0] 32)
        clear T1 T2 k4
        refine (look_out B2 nb2 a2 c2 1000 N1.length N2 i0 _ T24 HO2.out).mono ?_
        rintro _ w5 ⟨rfl, k5⟩
        have b5 := blk_keep b4 k5 (fun h => h)
        have p0 := blk_cell b5 0
        have p1 := blk_cell b5 1
        have p2 := blk_cell b5 2
        have p3 := blk_lt b5
        simp at p0 p1 p2
        have hs1 : (convert 27 9 (.slice none 0 0)).run Try.prog (w5.alloc (Obj.cells #[Value.int IntKind.i64 0, Value.int IntKind.i64 0, Value.slice none 0 0] 32)) = .ok (.string ⟨([] : List UInt8).toArray⟩) (w5.alloc (Obj.cells #[Value.int IntKind.i64 0, Value.int IntKind.i64 0, Value.slice none 0 0] 32)) := (Rd.nil _).str
        have K5 := (K4.trans k5).alloc (Obj.cells #[Value.int IntKind.i64 0, Value.int IntKind.i64 0, Value.slice none 0 0] 32)
        have T15 := (T14.keep0 k5).keep0 ((Keep.refl NoB w5).alloc (Obj.cells #[Value.int IntKind.i64 0, Value.int IntKind.i64 0, Value.slice none 0 0] 32))
        clear b4 b5 k5 T24 T14 K4
        go_wp2_with fail
        refine (len_any B1 nb1 a1 c1 1000 N1.length N1 _ T15).mono ?_
        rintro _ _ ⟨rfl, rfl⟩
        go_wp2
        go_ret
        exact ⟨rfl, K5.below (fun _ _ h => h)⟩
    · as_aux_lemma =>
      rcases hdd with ⟨d1, d2⟩ | ⟨d1, d2, d3, d4⟩
      all_goals
        go_wp2_with fail
        refine (double_out B1 nb1 a1 c1 1000 N1.length N1 i0 _ T1 HO1.out).mono ?_
        rintro _ w4 ⟨rfl, k4⟩
        have K4 := HK3.out.trans k4
        have T14 := T1.keep0 k4
        clear T1 T2 k4
        go_wp2_with fail
        refine (len_any B1 nb1 a1 c1 1000 N1.length N1 _ T14).mono ?_
        rintro _ _ ⟨rfl, rfl⟩
        go_wp2
        go_ret
        exact ⟨rfl, K4.below (fun _ _ h => h)⟩
end Go.Proofs.Ytbaojfjabhgohaa
