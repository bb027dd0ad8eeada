/- The document's example of script, asked; the walks of ScriptNames and ScriptReads. -/
import Derived.Test.YtijllpjddbonjaaDoorScriptU
namespace Go.Proofs.YtijllpjddbonjaaDoor
open Go Go.RowKit Go.Maps

def zA (i : Nat) : UInt8 := [27, 7, 8, 9, 1].getD i 0
theorem key3 : keyS (11 % 8) = ⟨#[107, 51]⟩ := by
  have h : Lib.itoa (11 % 8) = [51] := by
    unfold Lib.itoa
    rw [if_neg (by decide)]
    exact Lib.decDigits_one (i := 3) (by decide)
  unfold keyS itS
  rw [h]
  rfl
theorem text42 : textS 4 (-2) = ⟨#[118, 52, 46, 45, 50]⟩ := by
  have h : Lib.itoa 4 = [52] := by
    unfold Lib.itoa
    rw [if_neg (by decide)]
    exact Lib.decDigits_one (i := 4) (by decide)
  have h2 : Lib.itoa (-2) = [45, 50] := by
    unfold Lib.itoa
    rw [if_pos (by decide)]
    exact congrArg (45 :: ·) (Lib.decDigits_one (i := 2) (by decide))
  unfold textS itS
  rw [h, h2]
  rfl

set_option maxHeartbeats 1000000 in
theorem awake_any (w : World) (ht : HTab w) : Calls Tryd.prog 7 #[] w fun e w' => e = .returned (.bool true) ∧ Keep NoB w w' := by
  go_enter Tryd.func7, Tryd.ntmps7
  go_wp2_with fail
  have k1 : Keep NoB w (w.alloc (.cells #[.int .u8 27, .int .u8 7, .int .u8 8, .int .u8 9, .int .u8 1] 5)) := (Keep.refl NoB w).alloc _
  have b1 := blk_new w (.cells #[.int .u8 27, .int .u8 7, .int .u8 8, .int .u8 9, .int .u8 1] 5)
  generalize World.alloc w _ = w1 at k1 b1 ⊢
  generalize w.heap.size = nb at b1 ⊢
  have hB : BA w1 (some ⟨nb, 0, none⟩) 5 zA := Or.inr ⟨nb, 0, rfl, blk_lt b1, fun i hi => by
    rw [show 0 + i = i by omega, blk_cell b1]
    rcases (by omega : i = 0 ∨ i = 1 ∨ i = 2 ∨ i = 3 ∨ i = 4) with rfl | rfl | rfl | rfl | rfl <;> rfl⟩
  refine (dec_any _ 5 5 zA w1 (by decide) (by decide) hB (by decide) [(1, 7, 8, 9)] (by decide)).mono ?_
  rintro _ w2 ⟨a2, c2, rfl, O2, k2⟩
  have K2 := k1.trans k2
  obtain ⟨g, cap', hv, _, hgl, hc⟩ := O2.cells encOp_len (j := 0) (x := (1, 7, 8, 9)) rfl
  cases hv
  have m0 := hc 0 _ rfl
  have m1 := hc 1 _ rfl
  have m2 := hc 2 _ rfl
  have m3 := hc 3 _ rfl
  simp only [Nat.zero_mul, Nat.zero_add] at m0 m1 m2 m3
  clear hc O2 k2 b1 k1 hB
  go_wp2_with fail
  refine (key_any 11 _ (tab_keep ht K2)).mono ?_
  rintro _ w3 ⟨rfl, k3⟩
  rw [key3]
  go_wp2_with fail
  refine (text_any 4 (-2) (by unfold I64; decide) (by unfold I64; decide) _ (tab_keep ht (K2.trans k3))).mono ?_
  rintro _ w4 ⟨rfl, k4⟩
  rw [text42]
  have K4 := (K2.trans k3).trans k4
  go_wp2
  go_ret
  exact ⟨rfl, K4⟩

theorem names_walk (a b : Int) (ha : I64 a) (hb : I64 b) (w : World) (ht : HTab w) :
    Calls Tryd.prog 4 #[.int .i64 a, .int .i64 b] w fun e w' => e = .returned (.bool true) ∧ Below w.heap.size w w' := by
  go_enter Tryd.func4, Tryd.ntmps4
  go_wp2_with fail
  refine (awake_any _ ht).mono ?_
  rintro _ w1 ⟨rfl, k1⟩
  go_wp2_with fail
  refine (key_any a _ (tab_keep ht k1)).mono ?_
  rintro _ w2 ⟨rfl, k2⟩
  have K2 := k1.trans k2
  go_wp2_with fail
  refine (rkey_any a ha _).mono ?_
  rintro _ w3 ⟨rfl, k3⟩
  have K3 := K2.trans k3
  generalize keyS (a % 8) = s1
  go_wp2_with fail
  refine (text_any a b ha hb _ (tab_keep ht K3)).mono ?_
  rintro _ w4 ⟨rfl, k4⟩
  have K4 := K3.trans k4
  go_wp2_with fail
  refine (rtext_any a b ha hb _).mono ?_
  rintro _ w5 ⟨rfl, k5⟩
  have K5 := K4.trans k5
  generalize textS a b = s2
  go_wp2
  go_ret
  exact ⟨rfl, K5.below (fun _ _ h => h)⟩

theorem decK_kind {z : Nat → UInt8} {k : Nat} {x : SOp} {i : Nat} (h : (decK z k)[i]? = some x) : x.1 ≤ 25 := by
  unfold decK at h
  rw [List.getElem?_map] at h
  cases hr : (List.range k)[i]? with
  | none => rw [hr] at h; cases h
  | some j =>
    rw [hr] at h
    cases h
    show ((z (4 * j)).toNat : Int) % 26 ≤ 25
    omega

set_option maxHeartbeats 4000000 in
theorem reads_walk (a : Option Addr) (n cap : Nat) (z : Nat → UInt8) (w : World) (hn : n ≤ cap) (hcap : cap ≤ maxLen) (h : BA w a n z) (ht : HTab w) :
    Calls Tryd.prog 3 #[.slice a n cap] w fun e w' => e = .returned (.bool true) ∧ Below w.heap.size w w' := by
  have hcap' := hcap
  unfold maxLen at hcap'
  go_enter Tryd.func3, Tryd.ntmps3
  go_wp2_with fail
  refine (awake_any _ ht).mono ?_
  rintro _ w1 ⟨rfl, k1⟩
  by_cases h50 : n ≤ 100000
  case neg =>
    have hd : decide ((100000 : Int) < (n : Int)) = true := by simp; omega
    go_wp2
    go_ret
    exact ⟨rfl, k1.below (fun _ _ h => h)⟩
  case pos =>
  have hd : decide ((100000 : Int) < (n : Int)) = false := by simp; omega
  obtain ⟨V, hV⟩ : ∃ V, decK z (n / 4) = V := ⟨_, rfl⟩
  have hVl : V.length = n / 4 := by rw [← hV, decK_len]
  have HV := Lib.hid hV
  have HVl := Lib.hid hVl
  clear hV hVl
  go_wp2_with fail
  refine (dec_any a n cap z _ hn hcap (h.keep k1) (by omega) V HV.out).mono ?_
  rintro _ w2 ⟨a2, c2, rfl, O2, k2⟩
  have K2 := k1.trans k2
  go_wp2_with fail
  refine (rdec_any a n cap z _ hn hcap (h.keep K2) (by omega) V HV.out).mono ?_
  rintro _ w3 ⟨a3, c3, rfl, O3, k3⟩
  have K3 := K2.trans k3
  have O2' := O2.keep k3 (fun _ _ h => h)
  have e1 : (n : Int) / 4 = (V.length : Int) := by rw [HVl.out]; omega
  have hVn : V.length ≤ 25000 := by rw [HVl.out]; omega
  clear O2 k2 k3 K2 k1 h
  go_wp2_with fail
  clear e1
  go_loopw [30] (fun i wr => ∃ m : Nat, m ≤ V.length ∧ i = .int .i64 m ∧ Keep NoB w3 wr) (fun i _ => V.length - (intOf i).toNat)
  case atStart => exact ⟨0, Nat.zero_le _, rfl, Keep.refl _ _⟩
  case round =>
    obtain ⟨m, hm, rfl, kr⟩ := hrel
    by_cases hml : m < V.length
    · obtain ⟨x, hx⟩ : ∃ x, V[m]? = some x := ⟨_, List.getElem?_eq_getElem hml⟩
      have hx25 : x.1 ≤ 25 := decK_kind (z := z) (k := n / 4) (i := m) (by rw [HV.out]; exact hx)
      obtain ⟨g2, c2', hv, _, hg2, hc2⟩ := (O2'.keep kr (fun _ _ h => h)).cells encOp_len hx
      cases hv
      obtain ⟨g3, c3', hv, _, hg3, hc3⟩ := (O3.keep kr (fun _ _ h => h)).cells encOp_len hx
      cases hv
      obtain ⟨x0, x1, x2, x3⟩ := x
      have m0 := hc2 0 _ rfl
      have m1 := hc2 1 _ rfl
      have m2 := hc2 2 _ rfl
      have m3 := hc2 3 _ rfl
      have q0 := hc3 0 _ rfl
      have q1 := hc3 1 _ rfl
      have q2 := hc3 2 _ rfl
      have q3 := hc3 3 _ rfl
      simp only [Nat.add_zero] at m0 q0
      simp only at hx25
      have hd25 : decide (25 < x0) = false := by simp; omega
      clear hx hc2 hc3
      go_wp2_with fail
      go_quiet (fail)
      go_wp2_with fail
      go_roundw
      case rel => exact ⟨m + 1, hml, by go_num, kr.drewN _⟩
      case measure => simp [intOf]; omega
    · have hd2 : decide ((m : Int) < (V.length : Int)) = false := decide_eq_false (by omega)
      go_wp2
      go_ret
      exact ⟨rfl, (K3.trans kr).below (fun _ _ h => h)⟩
end Go.Proofs.YtijllpjddbonjaaDoor
