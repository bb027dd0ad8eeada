/- The walk of LeaseApart. -/
import Derived.Test.YtmndmgfianhbpaaLeaseA
namespace Go.Proofs.Ytmndmgfianhbpaa
open Go Go.RowKit Go.Maps

theorem kS_inj {a b : ByteArray} (h : kS a = kS b) : a = b := by
  unfold kS at h
  injection h with h
  cases a; cases b
  simp at h
  simp [h]

theorem str_ne {a b : ByteArray} (h : a ≠ b) : (a.toList == b.toList) = false := by
  rw [ByteArray.toList_eq, ByteArray.toList_eq, beq_eq_false_iff_ne]
  intro e
  apply h
  cases a; cases b
  simp at e
  simp [e]

theorem useB_ldel_other {L : LL} {k k' : Lit} (hne : k' ≠ k) : lget (ldel L k) k' = lget L k' := lget_ldel_other hne



set_option maxRecDepth 100000 in
set_option maxHeartbeats 1000000 in
theorem apart_walk (a b : ByteArray) (how tok : Int) (w : World) (ha : a.size ≤ maxLen) (hb : b.size ≤ maxLen) (hh0 : 0 ≤ how) (hh1 : how ≤ 255) :
    Calls Try.prog 4 #[.string a, .string b, .agg #[.int .u8 how, .int .i64 tok]] w fun e w' => e = .returned (.bool true) ∧ Below w.heap.size w w' := by
  go_enter Try.func4, Try.ntmps4
  go_wp2_with fail
  refine (awake_any _).mono ?_
  rintro _ w1 ⟨rfl, hk1⟩
  have hb1 := Lib.hid (blk_keep (blk_new w (.cells #[.int .u8 how, .int .i64 tok] 32)) hk1 (fun h => h))
  go_wp2_with fail
  refine (new_any 3 5 5 _ (by decide)).mono ?_
  rintro _ w2 ⟨rfl, T2, hk2, hs2⟩
  have hb2 := Lib.hid (blk_keep hb1.out hk2 (fun h => h))
  have hlo : w.heap.size < w1.heap.size := blk_lt hb1.out
  have K2 : Keep NoB w w2 := ((Keep.refl _ w).alloc _).trans (hk1.trans hk2)
  generalize htb : w1.heap.size + 1 = tb at *
  generalize hmb : w1.heap.size = mb at *
  have hlo2 : w.heap.size < tb := by omega
  clear hk1 hk2 hs2 htb hmb hb1
  go_wp2_with fail
  refine (grant_any tb mb 3 5 0 [] a _ T2 ha (by decide) (by decide) (by decide) 1 true 1 [(kS a, (1, 5))] rfl).mono ?_
  rintro _ w3 ⟨rfl, T3, hk3⟩
  have K3 : Keep NoB w w3 := K2.trans' hk3 (fun i hi e => by rcases e with e | e <;> omega)
  have hb3 := Lib.hid (blk_keep hb2.out hk3 (fun e => by rcases e with e | e <;> omega))
  go_wp2_with fail
  by_cases hab : a = b
  · subst hab
    have hg : grantR 3 5 1 [(kS a, (1, 5))] (kS a) = (0, false, 1, [(kS a, (1, 5))]) := by
      simp [grantR, lget, WideAt.sameKey_self (kS_key a)]
    refine (grant_any tb mb 3 5 1 _ a _ T3 ha (by simp [maxLen]) (by decide) (by decide) 0 false 1 _ hg).mono ?_
    rintro _ w4 ⟨rfl, T4, hk4⟩
    have K4 : Keep NoB w w4 := K3.trans' hk4 (fun i hi e => by rcases e with e | e <;> omega)
    have hu : useB [(kS a, ((1 : Int), (5 : Int)))] (kS a) 1 = true := by simp [useB, lget, WideAt.sameKey_self (kS_key a)]
    go_wp2_with fail
    refine (use_any tb mb 3 5 1 _ a 1 _ T4 ha true hu _ rfl).mono ?_
    rintro _ w5 ⟨rfl, T5, hk5⟩
    go_wp2
    go_ret
    exact ⟨rfl, (K4.trans' hk5 (fun i hi e => by rcases e with e | e <;> omega)).below (fun _ _ h => h)⟩
  · have hne : kS b ≠ kS a := fun e => hab (kS_inj e).symm
    have hd := str_ne hab
    have hsk : (kS a).sameKey (kS b) = false := sameKey_ne (Ne.symm hne)
    have hlg : lget [(kS a, ((1 : Int), (5 : Int)))] (kS b) = none := by simp [lget, hsk]
    obtain ⟨L2, hL2⟩ : ∃ l, lput [(kS a, ((1 : Int), (5 : Int)))] (kS b) (2, 5) = l := ⟨_, rfl⟩
    have hg : grantR 3 5 1 [(kS a, (1, 5))] (kS b) = (2, true, 2, L2) := by
      unfold grantR
      rw [hlg, ← hL2]
      simp
    have la : lget L2 (kS a) = some (1, 5) := by rw [← hL2, lget_lput_other (Ne.symm hne)]; simp [lget, WideAt.sameKey_self (kS_key a)]
    have lb : lget L2 (kS b) = some (2, 5) := by rw [← hL2, lget_lput_same (kS_key b)]
    have Hg := Lib.hid hg
    have Hla := Lib.hid la
    have Hlb := Lib.hid lb
    clear hab hg la lb hlg hL2 hsk
    refine (grant_any tb mb 3 5 1 _ b _ T3 hb (by simp [maxLen]) (by decide) (by decide) 2 true 2 L2 Hg.out).mono ?_
    rintro _ w4 ⟨rfl, T4, hk4⟩
    have K4 : Keep NoB w w4 := K3.trans' hk4 (fun i hi e => by rcases e with e | e <;> omega)
    have hb4 := blk_keep hb3.out hk4 (fun e => by rcases e with e | e <;> omega)
    have x0 := blk_cell hb4 0
    have x1 := blk_cell hb4 1
    have Hb4 := Lib.hid hb4
    clear hb4
    simp at x0 x1
    have hm0 : 0 ≤ how % 3 ∧ how % 3 ≤ 2 := by omega
    have hcase : (((how % 3 == 0) = true) ∨ ((how % 3 == 0) = false ∧ (how % 3 == 1) = true)) ∨ ((how % 3 == 0) = false ∧ (how % 3 == 1) = false ∧ (how % 3 == 2) = true) := by
      rcases (show how % 3 = 0 ∨ how % 3 = 1 ∨ how % 3 = 2 by omega) with h | h | h <;> simp [h]
    clear hm0
    have fin : ∃ L3 : LL, lget L3 (kS b) = some (2, 5) ∧ ldel L2 (kS a) = L3 := ⟨_, by rw [lget_ldel_other hne]; exact Hlb.out, rfl⟩
    obtain ⟨L3, lb3, hL3⟩ := fin
    obtain ⟨L4, hL4⟩ : ∃ L4, useL L2 (kS a) 1 = L4 := ⟨_, rfl⟩
    have lb4 : lget L4 (kS b) = some (2, 5) := by
      rw [← hL4]; unfold useL
      split
      · rw [lget_ldel_other hne]; exact Hlb.out
      · exact Hlb.out
    obtain ⟨L5, hL5⟩ : ∃ L5, useL L2 (kS a) tok = L5 := ⟨_, rfl⟩
    have lb5 : lget L5 (kS b) = some (2, 5) := by
      rw [← hL5]; unfold useL
      split
      · rw [lget_ldel_other hne]; exact Hlb.out
      · exact Hlb.out
    have HL3 := Lib.hid hL3
    have HL4 := Lib.hid hL4
    have HL5 := Lib.hid hL5
    have Hlb3 := Lib.hid lb3
    have Hlb4 := Lib.hid lb4
    have Hlb5 := Lib.hid lb5
    clear hL3 hL4 hL5 lb3 lb4 lb5
    rcases hcase with (h0 | ⟨h0, h1⟩) | ⟨h0, h1, h2⟩
    · go_wp2_with fail
      refine (kill_any tb mb 3 5 2 L2 a _ T4 ha _ rfl).mono ?_
      rw [HL3.out]
      rintro _ w5 ⟨rfl, T5, hk5⟩
      have K5 : Keep NoB w w5 := K4.trans' hk5 (fun i hi e => by rcases e with e | e <;> omega)
      go_wp2_with fail
      refine (use_any tb mb 3 5 2 L3 b 1 _ T5 hb false (by simp [useB, Hlb3.out]) L3 (by simp [useL, useB, Hlb3.out])).mono ?_
      rintro _ w6 ⟨rfl, T6, hk6⟩
      have K6 : Keep NoB w w6 := K5.trans' hk6 (fun i hi e => by rcases e with e | e <;> omega)
      go_wp2_with fail
      refine (use_any tb mb 3 5 2 L3 b 2 _ T6 hb true (by simp [useB, Hlb3.out]) (ldel L3 (kS b)) (by simp [useL, useB, Hlb3.out])).mono ?_
      rintro _ w7 ⟨rfl, T7, hk7⟩
      have K7 : Keep NoB w w7 := K6.trans' hk7 (fun i hi e => by rcases e with e | e <;> omega)
      go_wp2_with fail
      refine (use_any tb mb 3 5 2 (ldel L3 (kS b)) b 2 _ T7 hb false (by simp [useB, lget_ldel_same]) (ldel L3 (kS b)) (by simp [useL, useB, lget_ldel_same])).mono ?_
      rintro _ w8 ⟨rfl, T8, hk8⟩
      have K8 : Keep NoB w w8 := K7.trans' hk8 (fun i hi e => by rcases e with e | e <;> omega)
      go_wp2
      go_ret
      exact ⟨rfl, K8.below (fun _ _ h => h)⟩
    · go_wp2_with fail
      refine (use_any tb mb 3 5 2 L2 a 1 _ T4 ha _ rfl _ HL4.out).mono ?_
      rintro _ w5 ⟨rfl, T5, hk5⟩
      have K5 : Keep NoB w w5 := K4.trans' hk5 (fun i hi e => by rcases e with e | e <;> omega)
      go_wp2_with fail
      refine (use_any tb mb 3 5 2 L4 b 1 _ T5 hb false (by simp [useB, Hlb4.out]) L4 (by simp [useL, useB, Hlb4.out])).mono ?_
      rintro _ w6 ⟨rfl, T6, hk6⟩
      have K6 : Keep NoB w w6 := K5.trans' hk6 (fun i hi e => by rcases e with e | e <;> omega)
      go_wp2_with fail
      refine (use_any tb mb 3 5 2 L4 b 2 _ T6 hb true (by simp [useB, Hlb4.out]) (ldel L4 (kS b)) (by simp [useL, useB, Hlb4.out])).mono ?_
      rintro _ w7 ⟨rfl, T7, hk7⟩
      have K7 : Keep NoB w w7 := K6.trans' hk7 (fun i hi e => by rcases e with e | e <;> omega)
      go_wp2_with fail
      refine (use_any tb mb 3 5 2 (ldel L4 (kS b)) b 2 _ T7 hb false (by simp [useB, lget_ldel_same]) (ldel L4 (kS b)) (by simp [useL, useB, lget_ldel_same])).mono ?_
      rintro _ w8 ⟨rfl, T8, hk8⟩
      have K8 : Keep NoB w w8 := K7.trans' hk8 (fun i hi e => by rcases e with e | e <;> omega)
      go_wp2
      go_ret
      exact ⟨rfl, K8.below (fun _ _ h => h)⟩
    · go_wp2_with fail
      refine (use_any tb mb 3 5 2 L2 a tok _ T4 ha _ rfl _ HL5.out).mono ?_
      rintro _ w5 ⟨rfl, T5, hk5⟩
      have K5 : Keep NoB w w5 := K4.trans' hk5 (fun i hi e => by rcases e with e | e <;> omega)
      go_wp2_with fail
      refine (use_any tb mb 3 5 2 L5 b 1 _ T5 hb false (by simp [useB, Hlb5.out]) L5 (by simp [useL, useB, Hlb5.out])).mono ?_
      rintro _ w6 ⟨rfl, T6, hk6⟩
      have K6 : Keep NoB w w6 := K5.trans' hk6 (fun i hi e => by rcases e with e | e <;> omega)
      go_wp2_with fail
      refine (use_any tb mb 3 5 2 L5 b 2 _ T6 hb true (by simp [useB, Hlb5.out]) (ldel L5 (kS b)) (by simp [useL, useB, Hlb5.out])).mono ?_
      rintro _ w7 ⟨rfl, T7, hk7⟩
      have K7 : Keep NoB w w7 := K6.trans' hk7 (fun i hi e => by rcases e with e | e <;> omega)
      go_wp2_with fail
      refine (use_any tb mb 3 5 2 (ldel L5 (kS b)) b 2 _ T7 hb false (by simp [useB, lget_ldel_same]) (ldel L5 (kS b)) (by simp [useL, useB, lget_ldel_same])).mono ?_
      rintro _ w8 ⟨rfl, T8, hk8⟩
      have K8 : Keep NoB w w8 := K7.trans' hk8 (fun i hi e => by rcases e with e | e <;> omega)
      go_wp2
      go_ret
      exact ⟨rfl, K8.below (fun _ _ h => h)⟩
end Go.Proofs.Ytmndmgfianhbpaa
