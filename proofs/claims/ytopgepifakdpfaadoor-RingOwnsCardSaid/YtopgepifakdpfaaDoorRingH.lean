/- The reference's Hash and Way. -/
import Derived.Test.YtopgepifakdpfaaDoorRingSame
namespace Go.Proofs.YtopgepifakdpfaaDoor
open Go Go.RowKit Go.Maps Go.Sort
set_option maxRecDepth 100000

theorem quo_u64 (g : Int) (h : 0 ≤ g ∧ g < 18446744073709551616) : IntKind.u64.wrap (g.tdiv 4294967296) = g / 4294967296 := by
  rw [Int.tdiv_eq_ediv_of_nonneg h.1, IntKind.wrap_u64]
  omega
theorem rhash_any (s : ByteArray) (w : World) (hs : s.size ≤ maxLen) (v : Int) (hv : hash s = v) : Calls Tryd.prog 26 #[.string s] w fun e w' => e = .returned (.int .u64 v) ∧ w = w' := by
  have Hv := Lib.hid hv
  clear hv
  unfold maxLen at hs
  go_enter Tryd.func26, Tryd.ntmps26
  go_wp2_with fail
  go_loopw [3, 4] (fun hv iv wr => ∃ k : Nat, k ≤ s.size ∧ iv = .int .i64 (k : Int) ∧ hv = .int .u64 (hfold ((bs s).take k)) ∧ wr = w) (fun _ iv _ => s.size - (intOf iv).toNat)
  case atStart => exact ⟨0, Nat.zero_le _, rfl, by rw [List.take_zero, hfold_nil], rfl⟩
  case round =>
    obtain ⟨k, hk, rfl, rfl, rfl⟩ := hrel
    have hlen : (bs s).length = s.size := by unfold bs; rw [Array.length_toList]; rfl
    by_cases hgo : k < s.size
    · have d1 : decide ((k : Int) < (s.size : Int)) = true := decide_eq_true (by omega)
      have hw1 : IntKind.i64.wrap ((k : Int) + 1) = (k : Int) + 1 := IntWalk.i64_in _ (by omega)
      have hw2 : IntKind.u64.wrap ((s[k].toNat : Nat) : Int) = ((s[k].toNat : Nat) : Int) := by
        rw [IntKind.wrap_u64]
        have := s[k].toNat_lt
        omega
      obtain ⟨c, hc⟩ : ∃ c, s[k] = c := ⟨_, rfl⟩
      have hbk : (bs s)[k]? = some c := by rw [List.getElem?_eq_getElem (by omega), ← hc]; rfl
      have ht : hfold ((bs s).take (k + 1)) = hstep (hfold ((bs s).take k)) c := by
        obtain ⟨h1, h2⟩ := List.getElem?_eq_some_iff.1 hbk
        rw [List.take_succ_eq_append_getElem h1, h2, hfold_snoc]
      have Ht := Lib.hid ht
      generalize hfold ((bs s).take k) = h at Ht ⊢
      rw [hc] at hw2
      clear ht hbk hlen
      go_wp2_with fail
      go_roundw
      case rel => exact ⟨k + 1, hgo, by go_num, by rw [Ht.out]; rfl, trivial⟩
      case measure => simp [intOf]; omega
    · have d1 : decide ((k : Int) < (s.size : Int)) = false := decide_eq_false (by omega)
      have hfull : (bs s).take k = bs s := List.take_of_length_le (by omega)
      rw [hfull]
      obtain ⟨f, hf⟩ : ∃ q, hfold (bs s) = q := ⟨_, rfl⟩
      have hfr : 0 ≤ f ∧ f < 18446744073709551616 := by rw [← hf]; exact hfold_rng _
      have q1 : Int.tdiv f 4294967296 = f / 4294967296 := Int.tdiv_eq_ediv_of_nonneg hfr.1
      have q2 : IntKind.u64.wrap (f / 4294967296) = f / 4294967296 := by rw [IntKind.wrap_u64]; omega
      have Hf := Lib.hid hf
      rw [hf]
      clear hf
      go_wp2_with fail
      go_ret
      exact ⟨by rw [quo_u64 _ (u64_rng _), ← Hv.out]; unfold hash; rw [Hf.out]; rfl, rfl⟩

abbrev tenD : BA := ⟨#[48, 49, 50, 51, 52, 53, 54, 55, 56, 57]⟩
theorem dig_lo : ∀ j, j < 10 → tenD.extract (j % 10) (j % 10 + 1) = (⟨(Lib.decDigits j).toArray⟩ : BA) := by decide +kernel
theorem dig_hi : ∀ j, j < 16 → 9 < j → (⟨#[49]⟩ : BA) ++ tenD.extract (j % 10) (j % 10 + 1) = (⟨(Lib.decDigits j).toArray⟩ : BA) := by decide +kernel
theorem pt_sz {n : BA} (hn : n.size ≤ 140737488355328) {j : Nat} (hj : j < 16) : (n ++ ⟨#[47]⟩ ++ ⟨(Lib.decDigits j).toArray⟩).size ≤ maxLen := by
  rw [ByteArray.size_append, ByteArray.size_append]
  have := dig_len j hj
  unfold maxLen
  show n.size + 1 + (Lib.decDigits j).toArray.size ≤ _
  simp
  omega
def wb (h : Int) (n : BA) (j : Nat) : Int := if j = 0 then 0 else wayK pt h n (j - 1)
theorem wayK_next {h : Int} {n : BA} {j : Nat} {f b : Int} (hf : IntKind.u64.wrap (pt n j - h) = f) (hb : wb h n j = b) :
    wb h n (j + 1) = if j = 0 ∨ f < b then f else b := by
  unfold wb at *
  have e : dist h (pt n j) = f := by rw [← hf, IntKind.wrap_u64]; rfl
  rw [if_neg (by omega), Nat.add_sub_cancel]
  cases j with
  | zero => simp [wayK, e]
  | succ j =>
    rw [if_neg (by omega), Nat.add_sub_cancel] at hb
    unfold wayK
    rw [hb, e]
    by_cases hc : f < b
    · rw [if_pos (Or.inr hc)]; omega
    · rw [if_neg (by omega)]; omega

set_option maxHeartbeats 4000000 in
theorem way_any (h : Int) (n : BA) (w : World) (hn : n.size ≤ 140737488355328) (hh : 0 ≤ h ∧ h < MM) (v : Int) (hv : way pt h n = v) : Calls Tryd.prog 27 #[.int .u64 h, .string n] w fun e w' => e = .returned (.int .u64 v) ∧ w = w' := by
  have Hv := Lib.hid hv
  have Hh := Lib.hid hh
  clear hv hh
  go_enter Tryd.func27, Tryd.ntmps27
  go_wp2_with fail
  go_loopw [5, 6] (fun bv iv wr => ∃ j : Nat, j ≤ 16 ∧ iv = .int .i64 (j : Int) ∧ bv = .int .u64 (wb h n j) ∧ wr = w) (fun _ iv _ => 16 - (intOf iv).toNat)
  case atStart => exact ⟨0, Nat.zero_le _, rfl, rfl, rfl⟩
  case round =>
    obtain ⟨j, hj, rfl, rfl, rfl⟩ := hrel
    by_cases hgo : j < 16
    · have d1 : decide ((j : Int) < 16) = true := decide_eq_true (by omega)
      have hw1 : IntKind.i64.wrap ((j : Int) + 1) = (j : Int) + 1 := IntWalk.i64_in _ (by omega)
      obtain ⟨b, hb⟩ : ∃ b, wb h n j = b := ⟨_, rfl⟩
      rw [hb]
      have Hb := Lib.hid hb
      clear hb
      by_cases h9 : 9 < j
      · have d3 : decide ((9 : Int) < (j : Int)) = true := decide_eq_true (by omega)
        have hD := dig_hi j hgo h9
        have HD := Lib.hid hD
        clear hD
        go_wp2_with fail
        refine (rhash_any _ _ (by rw [HD.out]; exact pt_sz hn hgo) (pt n j) (by rw [HD.out]; rfl)).mono ?_
        rintro _ w1 ⟨rfl, rfl⟩
        obtain ⟨f, hf⟩ : ∃ f, IntKind.u64.wrap (pt n j - h) = f := ⟨_, rfl⟩
        have hst := wayK_next hf Hb.out
        have Hst := Lib.hid hst
        clear hst
        by_cases h0 : j = 0
        · subst h0
          have e1 := Hst.out
          rw [if_pos (Or.inl rfl)] at e1
          have He1 := Lib.hid e1
          clear e1
          go_wp2_with fail
          go_roundw
          case rel => exact ⟨0 + 1, hgo, by go_num, by rw [He1.out], trivial⟩
          case measure => simp [intOf]
        · have hj0 : ((j : Int) == 0) = false := by simp; exact h0
          by_cases hc : f < b
          · have e1 := Hst.out
            rw [if_pos (Or.inr hc)] at e1
            have He1 := Lib.hid e1
            have d2 : decide (f < b) = true := decide_eq_true hc
            clear e1
            go_wp2_with fail
            go_roundw
            case rel => exact ⟨j + 1, hgo, by go_num, by rw [He1.out], trivial⟩
            case measure => simp [intOf]; omega
          · have e1 := Hst.out
            rw [if_neg (fun e => e.elim h0 hc)] at e1
            have He1 := Lib.hid e1
            have d2 : decide (f < b) = false := decide_eq_false hc
            clear e1
            go_wp2_with fail
            go_roundw
            case rel => exact ⟨j + 1, hgo, by go_num, by rw [He1.out], trivial⟩
            case measure => simp [intOf]; omega
      · have d3 : decide ((9 : Int) < (j : Int)) = false := decide_eq_false (by omega)
        have hD := dig_lo j (by omega)
        have HD := Lib.hid hD
        clear hD
        go_wp2_with fail
        refine (rhash_any _ _ (by rw [HD.out]; exact pt_sz hn hgo) (pt n j) (by rw [HD.out]; rfl)).mono ?_
        rintro _ w1 ⟨rfl, rfl⟩
        obtain ⟨f, hf⟩ : ∃ f, IntKind.u64.wrap (pt n j - h) = f := ⟨_, rfl⟩
        have hst := wayK_next hf Hb.out
        have Hst := Lib.hid hst
        clear hst
        by_cases h0 : j = 0
        · subst h0
          have e1 := Hst.out
          rw [if_pos (Or.inl rfl)] at e1
          have He1 := Lib.hid e1
          clear e1
          go_wp2_with fail
          go_roundw
          case rel => exact ⟨0 + 1, hgo, by go_num, by rw [He1.out], trivial⟩
          case measure => simp [intOf]
        · have hj0 : ((j : Int) == 0) = false := by simp; exact h0
          by_cases hc : f < b
          · have e1 := Hst.out
            rw [if_pos (Or.inr hc)] at e1
            have He1 := Lib.hid e1
            have d2 : decide (f < b) = true := decide_eq_true hc
            clear e1
            go_wp2_with fail
            go_roundw
            case rel => exact ⟨j + 1, hgo, by go_num, by rw [He1.out], trivial⟩
            case measure => simp [intOf]; omega
          · have e1 := Hst.out
            rw [if_neg (fun e => e.elim h0 hc)] at e1
            have He1 := Lib.hid e1
            have d2 : decide (f < b) = false := decide_eq_false hc
            clear e1
            go_wp2_with fail
            go_roundw
            case rel => exact ⟨j + 1, hgo, by go_num, by rw [He1.out], trivial⟩
            case measure => simp [intOf]; omega
    · have d1 : decide ((j : Int) < 16) = false := decide_eq_false (by omega)
      have hj16 : j = 16 := by omega
      subst hj16
      go_wp2_with fail
      go_ret
      exact ⟨by rw [← Hv.out]; rfl, rfl⟩
end Go.Proofs.YtopgepifakdpfaaDoor
