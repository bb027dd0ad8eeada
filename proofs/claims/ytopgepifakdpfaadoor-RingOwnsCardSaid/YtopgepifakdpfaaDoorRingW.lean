/- What Hash, slices.Index, slices.Contains come to. -/
import Derived.Test.YtopgepifakdpfaaDoorLibStrs
import Derived.Test.YtopgepifakdpfaaDoorLibReg2
import Derived.Test.YtopgepifakdpfaaDoorLibKeyS
import Derived.Test.YtopgepifakdpfaaDoorLibRise
import Derived.Test.YtopgepifakdpfaaDoorLibKs
import Derived.Test.YtopgepifakdpfaaDoorRingQ2
import Derived.Test.YtopgepifakdpfaaDoorProg
namespace Go.Proofs.YtopgepifakdpfaaDoor
open Go Go.RowKit Go.Maps

/-! ### Hash -/
def hstep (h : Int) (c : UInt8) : Int := IntKind.u64.wrap (bits .xor .u64 h (c.toNat : Int) * 1099511628211)
def hfold (l : List UInt8) : Int := l.foldl hstep 14695981039346656037
def hmix (h : Int) : Int := bits .xor .u64 h (h / 4294967296)
def hash (s : ByteArray) : Int := hmix (IntKind.u64.wrap (hmix (hfold (bs s)) * 15459136393263645077))
theorem hfold_nil : hfold [] = 14695981039346656037 := rfl
theorem hfold_snoc (l : List UInt8) (c : UInt8) : hfold (l ++ [c]) = hstep (hfold l) c := by unfold hfold; rw [List.foldl_append]; rfl
theorem u64_rng (n : Int) : 0 ≤ IntKind.u64.wrap n ∧ IntKind.u64.wrap n < 18446744073709551616 := by rw [IntKind.wrap_u64]; omega
theorem xor_rng (a b : Int) : 0 ≤ bits .xor .u64 a b ∧ bits .xor .u64 a b < 18446744073709551616 := by unfold bits; exact u64_rng _
theorem hash_rng (s : ByteArray) : 0 ≤ hash s ∧ hash s < MM := xor_rng _ _
theorem hfold_rng : ∀ l : List UInt8, 0 ≤ hfold l ∧ hfold l < 18446744073709551616 := by
  intro l
  rcases List.eq_nil_or_concat l with rfl | ⟨q, c, rfl⟩
  · decide
  · rw [List.concat_eq_append, hfold_snoc]
    exact u64_rng _

theorem hash_any (s : ByteArray) (w : World) (hs : s.size ≤ maxLen) (v : Int) (hv : hash s = v) : Calls Tryd.prog 23 #[.string s] w fun e w' => e = .returned (.int .u64 v) ∧ w = w' := by
  have Hv := Lib.hid hv
  clear hv
  unfold maxLen at hs
  go_enter Tryd.func23, Tryd.ntmps23
  go_wp2_with fail
  go_loopw [3, 4] (fun hv iv wr => ∃ k : Nat, k ≤ s.size ∧ iv = .int .i64 (k : Int) ∧ hv = .int .u64 (hfold ((bs s).take k)) ∧ wr = w) (fun _ iv _ => s.size - (intOf iv).toNat)
  case atStart => exact ⟨0, Nat.zero_le _, rfl, by rw [List.take_zero, hfold_nil], rfl⟩
  case round =>
    obtain ⟨k, hk, rfl, rfl, rfl⟩ := hrel
    have hlen : (bs s).length = s.size := by unfold bs; rw [Array.length_toList]; rfl
    by_cases hgo : k < s.size
    · have d1 : decide ((k : Int) < (s.size : Int)) = true := decide_eq_true (by omega)
      have hw1 : IntKind.i64.wrap ((k : Int) + 1) = (k : Int) + 1 := IntWalk.i64_in _ (by omega)
      have hw2 : IntKind.u64.wrap ((s[k].toNat : Nat) : Int) = ((s[k].toNat : Nat) : Int) := by
        rw [IntKind.wrap_u64]
        have := s[k].toNat_lt
        omega
      obtain ⟨c, hc⟩ : ∃ c, s[k] = c := ⟨_, rfl⟩
      have hbk : (bs s)[k]? = some c := by rw [List.getElem?_eq_getElem (by omega), ← hc]; rfl
      have ht : hfold ((bs s).take (k + 1)) = hstep (hfold ((bs s).take k)) c := by
        obtain ⟨h1, h2⟩ := List.getElem?_eq_some_iff.1 hbk
        rw [List.take_succ_eq_append_getElem h1, h2, hfold_snoc]
      have Ht := Lib.hid ht
      generalize hfold ((bs s).take k) = h at Ht ⊢
      rw [hc] at hw2
      clear ht hbk hlen
      go_wp2_with fail
      go_roundw
      case rel => exact ⟨k + 1, hgo, by go_num, by rw [Ht.out]; rfl, trivial⟩
      case measure => simp [intOf]; omega
    · have d1 : decide ((k : Int) < (s.size : Int)) = false := decide_eq_false (by omega)
      have hfull : (bs s).take k = bs s := List.take_of_length_le (by omega)
      rw [hfull]
      go_wp2_with fail
      go_ret
      exact ⟨by rw [← Hv.out]; rfl, rfl⟩

/-! ### slices.Index, slices.Contains -/
theorem index_any (w : World) (a : Option Addr) (c : Nat) (N : List BA) (x : BA) (h : RdS w a N) (hl : N.length ≤ 1000000) :
    Calls Tryd.prog 28 #[.slice a N.length c, .string x] w fun e w' => (∃ v : Int, e = .returned (.int .i64 v) ∧ (0 ≤ v ↔ x ∈ N)) ∧ w = w' := by
  have H := Lib.hid h
  clear h
  go_enter Tryd.func28, Tryd.ntmps28
  go_wp2_with fail
  go_loopw [8] (fun iv wr => ∃ k : Nat, k ≤ N.length ∧ iv = .int .i64 (k : Int) ∧ wr = w ∧ ∀ y ∈ N.take k, y ≠ x) (fun iv _ => N.length - (intOf iv).toNat)
  case atStart => exact ⟨0, Nat.zero_le _, rfl, rfl, by intro y hy; simp at hy⟩
  case round =>
    obtain ⟨k, hk, rfl, rfl, hn⟩ := hrel
    have HN := Lib.hid hn
    clear hn
    by_cases hgo : k < N.length
    · obtain ⟨y, hy⟩ : ∃ y, N[k]? = some y := ⟨_, List.getElem?_eq_getElem hgo⟩
      obtain ⟨b, off, rfl, hb, hc⟩ := H.out.at hy
      have Hy := Lib.hid hy
      have d1 : decide ((k : Int) < (N.length : Int)) = true := decide_eq_true (by omega)
      have hw1 : IntKind.i64.wrap ((k : Int) + 1) = (k : Int) + 1 := IntWalk.i64_in _ (by omega)
      clear hy
      by_cases he : x = y
      · subst he
        have he2 : (x.toList == x.toList) = true := by simp
        go_wp2_with fail
        go_ret
        exact ⟨⟨(k : Int), rfl, ⟨fun _ => List.mem_of_getElem? Hy.out, fun _ => by omega⟩⟩, rfl⟩
      · have he2 := tx_ne he
        go_wp2_with fail
        go_roundw
        case rel =>
          refine ⟨k + 1, hgo, by go_num, trivial, fun z hz => ?_⟩
          obtain ⟨h1, h2⟩ := List.getElem?_eq_some_iff.1 Hy.out
          rw [List.take_succ_eq_append_getElem h1, h2] at hz
          rcases List.mem_append.1 hz with hz | hz
          · exact HN.out z hz
          · rw [List.mem_singleton] at hz
            subst hz
            exact fun e => he e.symm
        case measure => simp [intOf]; omega
    · have d1 : decide ((k : Int) < (N.length : Int)) = false := decide_eq_false (by omega)
      go_wp2_with fail
      go_ret
      refine ⟨⟨-1, rfl, ⟨fun h => by omega, fun h => ?_⟩⟩, rfl⟩
      have h2 := HN.out x (by rw [List.take_of_length_le (by omega)]; exact h)
      exact absurd rfl h2
theorem contains_any (w : World) (a : Option Addr) (c : Nat) (N : List BA) (x : BA) (h : RdS w a N) (hl : N.length ≤ 1000000) (b : Bool) (hb : decide (x ∈ N) = b) :
    Calls Tryd.prog 19 #[.slice a N.length c, .string x] w fun e w' => e = .returned (.bool b) ∧ w = w' := by
  have Hb := Lib.hid hb
  clear hb
  go_enter Tryd.func19, Tryd.ntmps19
  go_wp2_with fail
  refine (index_any _ a c N x h hl).mono ?_
  rintro _ w1 ⟨⟨v, rfl, hv⟩, rfl⟩
  have hd : decide (0 ≤ v) = b := by
    rw [← Hb.out]
    exact decide_eq_decide.2 hv
  clear hv
  cases b
  · go_wp2_with fail
    go_ret
    exact ⟨rfl, rfl⟩
  · go_wp2_with fail
    go_ret
    exact ⟨rfl, rfl⟩
end Go.Proofs.YtopgepifakdpfaaDoor
