/- What great and packets come to. -/
import Derived.Test.YtbaojfjabhgohaaLinkA
namespace Go.Proofs.Ytbaojfjabhgohaa
open Go Go.RowKit Go.Maps

/-- A text: where its bytes lie, its bytes. -/
structure TX where
  a : Option Addr
  c : Nat
  l : List UInt8
def TX.v (x : TX) : Value := .slice x.a x.l.length x.c
instance : Inhabited TX := ⟨⟨none, 0, []⟩⟩

/-- What the walk is told of a slice of texts. -/
def IsTx (w : World) (a : Option Addr) (len : Nat) (z : Nat → TX) : Prop :=
  len ≤ maxLen ∧ (∀ i, i < len → Rd w (z i).v (z i).l ∧ (z i).l.length ≤ maxLen) ∧ (len = 0 ∨ ∃ b off, a = some ⟨b, off, none⟩ ∧ b < w.heap.size ∧ ∀ i, i < len → w.cell? ⟨b, off + i, none⟩ = some (z i).v)

theorem IsTx.keep {w w' : World} {a : Option Addr} {len : Nat} {z : Nat → TX} (h : IsTx w a len z) (hk : Keep NoB w w') : IsTx w' a len z := by
  obtain ⟨h1, h2, h3⟩ := h
  refine ⟨h1, fun i hi => ⟨(h2 i hi).1.keep hk (fun _ _ _ _ h => h), (h2 i hi).2⟩, ?_⟩
  rcases h3 with h0 | ⟨b, off, ha, hb, hc⟩
  · exact Or.inl h0
  · exact Or.inr ⟨b, off, ha, Nat.lt_of_lt_of_le hb hk.size, fun i hi => hk.some (hc i hi) (fun h => h)⟩

/-- Not great. -/
def Small (len : Nat) (z : Nat → TX) : Prop := len ≤ 100 ∧ ∀ i, i < len → (z i).l.length ≤ 100000
def GreatPost (len : Nat) (z : Nat → TX) (w : World) (e : Ending) (w' : World) : Prop := w = w' ∧ (e = .returned (.bool true) ∨ (e = .returned (.bool false) ∧ Small len z))

set_option maxHeartbeats 1000000 in
theorem great_any (a0 : Option Addr) (len0 cap0 : Nat) (z : Nat → TX) (w : World) (h0 : IsTx w a0 len0 z) :
    Calls Try.prog 13 #[.slice a0 len0 cap0] w (GreatPost len0 z w) := by
  obtain ⟨hmax, hok, hrow⟩ := h0
  unfold maxLen at hmax
  go_enter Try.func13, Try.ntmps13
  go_wp2_with fail
  go_loop [3, 7] (fun n j => ∃ (k s : Nat), k ≤ len0 ∧ k ≤ 100 ∧ s ≤ 100000 ∧ j = .int .i64 k ∧ n = .int .i64 s ∧ (∀ i, i < k → (z i).l.length ≤ 100000)) (fun _ j => len0 - (intOf j).toNat)
  case atStart => exact ⟨0, 0, Nat.zero_le _, Nat.zero_le _, Nat.zero_le _, rfl, rfl, fun i hi => by omega⟩
  case round =>
    obtain ⟨k, s, hk, hk100, hs, rfl, rfl, hall⟩ := hrel
    have Hall := Lib.hid hall
    clear hall
    by_cases hlt : k < len0
    · rcases hrow with h | ⟨b, off, rfl, hb, hc⟩
      · omega
      have hcw := hc k hlt
      have hl := (hok k hlt).2
      unfold maxLen at hl
      have Hc := Lib.hid hc
      clear hc
      generalize hzk : z k = x at hcw hl
      have Hzk := Lib.hid hzk
      clear hzk
      obtain ⟨xa, xc, xl⟩ := x
      simp only [TX.v] at hcw hl
      by_cases h100 : 100 ≤ k
      · have hd : decide ((100 : Int) ≤ (k : Int)) = true := by simp; omega
        go_wp2
        go_ret
        exact ⟨rfl, Or.inl rfl⟩
      · have hd : decide ((100 : Int) ≤ (k : Int)) = false := by simp; omega
        by_cases hbig : 100000 < xl.length
        · have hd2 : decide ((100000 : Int) < (xl.length : Int)) = true := by simp; omega
          go_wp2
          go_ret
          exact ⟨rfl, Or.inl rfl⟩
        · have hd2 : decide ((100000 : Int) < (xl.length : Int)) = false := by simp; omega
          by_cases hsum : 100000 < s + xl.length
          · have hd3 : decide ((100000 : Int) < (s : Int) + (xl.length : Int)) = true := by simp; omega
            go_wp2
            go_ret
            exact ⟨rfl, Or.inl rfl⟩
          · have hd3 : decide ((100000 : Int) < (s : Int) + (xl.length : Int)) = false := by simp; omega
            go_wp2_with fail
            go_round
            case rel =>
              refine ⟨k + 1, s + xl.length, hlt, by omega, by omega, by go_num, by go_num, fun i hi => ?_⟩
              by_cases hik : i = k
              · subst hik; rw [Hzk.out]; simp only; omega
              · exact Hall.out i (by omega)
            case measure => simp [intOf]; omega
    · have hsm : Small len0 z := ⟨by omega, fun i hi => Hall.out i (by omega)⟩
      have Hsm := Lib.hid hsm
      clear hsm hok hrow
      go_wp2
      go_ret
      exact ⟨rfl, Or.inr ⟨rfl, Hsm.out⟩⟩

/-- The packets of these texts, from and to their places. -/
def Packs (z : Nat → TX) (N : List HE) : Prop := ∀ (i : Nat) (x : HE), N[i]? = some x → x.f = (i : Int) ∧ x.t = (i : Int) + 1 ∧ x.tn = false ∧ x.l = (z i).l
def PacketsPost (len : Nat) (z : Nat → TX) (w : World) (e : Ending) (w' : World) : Prop :=
  ∃ nb a cap N, e = .returned (.pointer (some ⟨nb, 0, none⟩)) ∧ w.heap.size ≤ nb ∧ Net w' w.heap.size nb a cap 1000 len N ∧ N.length = len ∧ Packs z N ∧ Keep NoB w w'

set_option maxHeartbeats 1000000 in
theorem packets_any (a0 : Option Addr) (len0 cap0 : Nat) (z : Nat → TX) (w : World) (h0 : IsTx w a0 len0 z) (hs : Small len0 z) :
    Calls Try.prog 14 #[.slice a0 len0 cap0] w (PacketsPost len0 z w) := by
  have H0 := Lib.hid h0
  have HS := Lib.hid hs
  have h100 := hs.1
  clear h0 hs
  go_enter Try.func14, Try.ntmps14
  go_wp2_with fail
  refine (new_any 1000 _ (Nat.le_refl _)).mono ?_
  rintro _ w2 ⟨rfl, T2, hk2, hs2⟩
  generalize hnb : w.heap.size = nb at T2 hs2
  have HNB := Lib.hid hnb
  have hnb2 : w.heap.size ≤ nb := by omega
  clear hs2 hnb
  go_wp2_with fail
  go_loopw [4] (fun i wx => ∃ (k : Nat) (a : Option Addr) (cap : Nat) (N : List HE), k ≤ len0 ∧ i = .int .i64 k ∧ Net wx nb nb a cap 1000 k N ∧ N.length = k ∧ Packs z N ∧ Keep NoB w wx) (fun i _ => len0 - (intOf i).toNat)
  case atStart => exact ⟨0, none, 0, [], Nat.zero_le _, rfl, T2, rfl, fun i x h => by simp at h, hk2⟩
  case round =>
    clear T2 hk2
    obtain ⟨k, a, cap, N, hk, rfl, T, hN, hP, hkx⟩ := hrel
    have HP := Lib.hid hP
    have HN := Lib.hid hN
    have hN1 : N.length ≤ k := by omega
    have hN2 : k ≤ N.length := by omega
    clear hP hN
    by_cases hlt : k < len0
    · have hlt100 : decide ((k : Int) < 100) = true := by simp; omega
      obtain ⟨hmax, hok, hrow⟩ := H0.out
      rcases hrow with h | ⟨b, off, rfl, hb, hc⟩
      · omega
      have hcw := hkx.some (hc k hlt) (fun h => h)
      have hrd := (hok k hlt).1.keep hkx (fun _ _ _ _ h => h)
      have hl := HS.out.2 k hlt
      have sx := hkx.size
      clear hc hok hmax
      generalize hzk : z k = x at hcw hrd hl
      have Hzk := Lib.hid hzk
      clear hzk
      obtain ⟨xa, xc, xl⟩ := x
      simp only [TX.v] at hcw hl hrd
      go_wp2_with fail
      refine (send_ok nb nb a cap 1000 k N k (k + 1) _ xl _ T (by have := HNB.out; omega) hrd (by omega) (by omega) (by omega) (by omega) (by omega)).mono ?_
      rintro _ w5 ⟨a5, c5, g5, rfl, T5, k5⟩
      have K5 : Keep NoB w w5 := hkx.trans' k5 (fun i hi e => by have := SN_out T (Nat.le_refl _) i e; omega)
      have hP5 : Packs z (N ++ [⟨k, k + 1, some ⟨g5, 0, none⟩, xl.length, false, xl⟩]) := by
        intro i x hx
        by_cases hi : i < N.length
        · rw [List.getElem?_append_left hi] at hx; exact HP.out i x hx
        · have hik : i = k := by
            have := (List.getElem?_eq_some_iff.1 hx).1
            simp at this
            omega
          subst hik
          rw [← HN.out, List.getElem?_concat_length] at hx
          cases hx
          exact ⟨by rw [HN.out], by rw [HN.out], rfl, by rw [HN.out, Hzk.out]⟩
      have HP5 := Lib.hid hP5
      have hN5 : (N ++ [(⟨k, k + 1, some ⟨g5, 0, none⟩, xl.length, false, xl⟩ : HE)]).length = k + 1 := by simp; omega
      have HN5 := Lib.hid hN5
      have HT5 := Lib.hid (show Net w5 nb nb a5 c5 1000 ((k + 1 : Nat) : Int) _ from by simpa using T5)
      clear hP5 hN5 T5 k5 T
      go_wp2_with fail
      go_roundw
      case rel => exact ⟨k + 1, a5, c5, _, hlt, by go_num, HT5.out, HN5.out, HP5.out, K5⟩
      case measure => simp [intOf]; omega
    · obtain rfl : k = len0 := by omega
      have HT := Lib.hid T
      clear T
      go_wp2
      go_ret
      refine ⟨nb, a, cap, N, rfl, hnb2, ?_, HN.out, HP.out, hkx⟩
      rw [HNB.out]
      exact HT.out
end Go.Proofs.Ytbaojfjabhgohaa
