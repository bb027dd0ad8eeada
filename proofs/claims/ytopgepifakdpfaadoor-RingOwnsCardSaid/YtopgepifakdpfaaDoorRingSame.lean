/- The law's short, the reference's Same at lists that are the same. -/
import Derived.Test.YtopgepifakdpfaaDoorRingM
namespace Go.Proofs.YtopgepifakdpfaaDoor
open Go Go.RowKit Go.Maps Go.Sort
set_option maxRecDepth 100000

theorem nds_mem {N L : List BA} (h : Nds N L) {x : BA} (hx : x ∈ L) : x ∈ N := by
  have h1 : ∀ (l acc : List BA) (x : BA), x ∈ fe acc l → x ∈ acc ∨ x ∈ l := by
    intro l
    induction l with
    | nil => intro acc x hx; rw [fe_nil] at hx; exact Or.inl hx
    | cons y l ih =>
      intro acc x hx
      rw [fe_cons] at hx
      split at hx
      · rcases ih _ x hx with h | h
        · rcases List.mem_append.1 h with h | h
          · exact Or.inl h
          · rw [List.mem_singleton] at h; subst h; exact Or.inr (by simp)
        · exact Or.inr (by simp [h])
      · rcases ih _ x hx with h | h
        · exact Or.inl h
        · exact Or.inr (by simp [h])
  exact (h1 N [] x (h.1.mem_iff.1 hx)).resolve_left (by simp)

theorem rds_own' {w : World} {B : Nat} {e : TypeId} {n c : Nat} {a : Option Addr} {N : List BA} (h : Own w B e 1 cS (.slice a n c) N) : RdS w a N := by
  have := h.room.1
  subst this
  exact rds_own h

set_option maxHeartbeats 2000000 in
theorem same_yes (w : World) (a b : Option Addr) (m c d : Nat) (N : List BA) (h : RdS w a N) (h' : RdS w b N) (hm : N.length = m) (hl : m ≤ 1000000) :
    Calls Tryd.prog 11 #[.slice a m c, .slice b m d] w fun e w' => e = .returned (.bool true) ∧ Keep NoB w w' := by
  have HA := Lib.hid h
  have HB := Lib.hid h'
  have HM := Lib.hid hm
  clear h h' hm
  go_enter Tryd.func11, Tryd.ntmps11
  go_wp2_with fail
  go_loopw [5] (fun iv wr => ∃ k : Nat, k ≤ m ∧ iv = .int .i64 (k : Int) ∧ Keep NoB w wr) (fun iv _ => m - (intOf iv).toNat)
  case atStart => exact ⟨0, Nat.zero_le _, rfl, Keep.refl _ _⟩
  case round =>
    obtain ⟨k, hk, rfl, hkr⟩ := hrel
    have Hkr := Lib.hid hkr
    clear hkr
    by_cases hgo : k < m
    · obtain ⟨x, hx⟩ : ∃ x, N[k]? = some x := ⟨_, List.getElem?_eq_getElem (by rw [HM.out]; exact hgo)⟩
      obtain ⟨xb, xo, rfl, _, hxc⟩ := (HA.out.keep0 Hkr.out).at hx
      obtain ⟨yb, yo, rfl, _, hyc⟩ := (HB.out.keep0 Hkr.out).at hx
      have he : (x.toList == x.toList) = true := by simp
      have d1 : decide ((k : Int) < (m : Int)) = true := decide_eq_true (by omega)
      have hw1 : IntKind.i64.wrap ((k : Int) + 1) = (k : Int) + 1 := IntWalk.i64_in _ (by omega)
      clear hx
      go_wp2_with fail
      go_quiet (fail)
      go_wp2_with fail
      go_roundw
      case rel => exact ⟨k + 1, hgo, by go_num, Hkr.out.drewN _⟩
      case measure => simp [intOf]; omega
    · have d1 : decide ((k : Int) < (m : Int)) = false := decide_eq_false (by omega)
      go_wp2_with fail
      go_ret
      exact ⟨rfl, Hkr.out⟩

set_option maxHeartbeats 2000000 in
theorem short_any (w : World) (a : Option Addr) (c : Nat) (N : List BA) (x : BA) (h : RdS w a N) (hl : N.length ≤ 9223372036854775807) :
    Calls Tryd.prog 9 #[.slice a N.length c, .string x] w fun e w' => ∃ v, e = .returned (.bool v) ∧ (v = true → N.length ≤ 100) ∧ Keep NoB w w' := by
  have HA := Lib.hid h
  clear h
  go_enter Tryd.func9, Tryd.ntmps9
  go_wp2_with fail
  go_loopw [5, 11] (fun nv iv wr => ∃ (k : Nat) (q : Int), k ≤ N.length ∧ iv = .int .i64 (k : Int) ∧ nv = .int .i64 q ∧ Keep NoB w wr) (fun _ iv _ => N.length - (intOf iv).toNat)
  case atStart => exact ⟨0, _, Nat.zero_le _, rfl, rfl, Keep.refl _ _⟩
  case round =>
    obtain ⟨k, q, hk, rfl, rfl, hkr⟩ := hrel
    have Hkr := Lib.hid hkr
    clear hkr
    by_cases hgo : k < N.length
    · obtain ⟨x, hx⟩ : ∃ x, N[k]? = some x := ⟨_, List.getElem?_eq_getElem hgo⟩
      obtain ⟨xb, xo, rfl, _, hxc⟩ := (HA.out.keep0 Hkr.out).at hx
      have d1 : decide ((k : Int) < (N.length : Int)) = true := decide_eq_true (by omega)
      have hw1 : IntKind.i64.wrap ((k : Int) + 1) = (k : Int) + 1 := IntWalk.i64_in _ (by omega)
      clear hx
      go_wp2_with fail
      go_roundw
      case rel => exact ⟨k + 1, _, hgo, by go_num, rfl, Hkr.out⟩
      case measure => simp [intOf]; omega
    · have d1 : decide ((k : Int) < (N.length : Int)) = false := decide_eq_false (by omega)
      obtain ⟨b, hb⟩ : ∃ b, decide (q ≤ 10000) = b := ⟨_, rfl⟩
      obtain ⟨b', hb'⟩ : ∃ b', decide ((N.length : Int) ≤ 100) = b' := ⟨_, rfl⟩
      have Hb' := Lib.hid hb'
      cases b
      · go_wp2_with fail
        go_ret
        exact ⟨false, rfl, (fun h => by cases h), Hkr.out⟩
      · go_wp2_with fail
        go_ret
        exact ⟨b', rfl, (fun h => by have := Hb'.out; rw [h] at this; have := of_decide_eq_true this; omega), Hkr.out⟩
end Go.Proofs.YtopgepifakdpfaaDoor
