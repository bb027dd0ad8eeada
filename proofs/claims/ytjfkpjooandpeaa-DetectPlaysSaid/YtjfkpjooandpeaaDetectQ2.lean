/- More of the detector's list; Beat as one. -/
import Derived.Test.YtjfkpjooandpeaaDetectQ
namespace Go.Proofs.Ytjfkpjooandpeaa
open Go Go.RowKit Go.Maps Go.Sort
theorem live_mem {L : DL} (hk : KeysS L) (ha : Apart L) (s : ByteArray) : s ∈ keysOf (liveL L) ↔ aliveB L (kT s) = true := by
  have hk' : KeysS (liveL L) := filter_keysS hk _
  have ha' : Apart (liveL L) := List.Pairwise.sublist List.filter_sublist ha
  rw [keysOf_mem hk' ha']
  unfold aliveB
  have h : lget (liveL L) (kT s) = _ := lget_filter ha _ (kT s) (kT_key s)
  rw [h]
  cases lget L (kT s) with
  | none => simp
  | some v =>
    by_cases hv : 0 < v
    · simp [hv]
    · simp [hv]
theorem live_rise {L : DL} (hk : KeysS L) (hr : L.Pairwise (fun p q => p.1.before q.1 = true)) : (keysOf (liveL L)).Pairwise (fun x y => bs x < bs y) :=
  keysOf_rising (filter_keysS hk _) (List.Pairwise.sublist List.filter_sublist hr)
theorem keys_size {L : DL} (hk : KeysS L) : ∀ s ∈ keysOf L, s.size ≤ maxLen := by
  intro s hs
  obtain ⟨q, hq, rfl⟩ := List.mem_map.1 hs
  obtain ⟨s', e, h⟩ := hk q hq
  rw [e, txt_kT]
  exact h

def beatL (p : Int) (L : DL) (k : Lit) : DL := if (lget L k).isSome then lput L k p else L
theorem beatL_len {p : Int} {L : DL} (ha : Apart L) (k : Lit) : (beatL p L k).length = L.length := by
  unfold beatL
  split
  · rename_i h
    rw [length_lput ha, h]
    simp
  · rfl
theorem vals_beat {p : Int} (hp : 0 ≤ p) {L : DL} (h : Vals p L) (k : Lit) : Vals p (beatL p L k) := by
  unfold beatL
  split
  · exact vals_put hp h k
  · exact h

theorem beat_any (tb mb : Nat) (pat ch : Int) (L : DL) (s : ByteArray) (w : World) (T : Tab w tb mb pat ch L) (hs : s.size ≤ maxLen) (hn : L.length < maxLen) (h0 : 0 ≤ ch) (h1 : ch ≤ 1000000000) (r : Bool) (ch' : Int) (hr : (lget L (kT s) = some 0 ∧ r = true ∧ ch' = ch + 1) ∨ (lget L (kT s) ≠ some 0 ∧ r = false ∧ ch' = ch)) (L' : DL) (hL : beatL pat L (kT s) = L') :
    Calls Try.prog 11 #[.pointer (some ⟨tb, 0, none⟩), .string s] w (DPost tb mb pat ch' L' (.bool r) w) := by
  subst hL
  unfold beatL
  rcases hr with ⟨hg, rfl, rfl⟩ | ⟨hg, rfl, rfl⟩
  · rw [hg]
    exact beat_zero tb mb pat ch L s w T hs hn hg h0 h1
  · cases hl : lget L (kT s) with
    | none =>
      refine (beat_no tb mb pat ch' L s w T hs hl).mono ?_
      rintro _ _ ⟨rfl, rfl⟩
      exact ⟨rfl, T, Keep.refl _ _⟩
    | some n =>
      have hz : (n == 0) = false := by
        rw [hl] at hg
        simpa using hg
      exact beat_more tb mb pat ch' L s w T hs hn n hl hz
theorem beat_case (L : DL) (k : Lit) (ch : Int) : ∃ r ch', (lget L k = some 0 ∧ r = true ∧ ch' = ch + 1) ∨ (lget L k ≠ some 0 ∧ r = false ∧ ch' = ch) := by
  by_cases h : lget L k = some 0
  · exact ⟨true, ch + 1, Or.inl ⟨h, rfl, rfl⟩⟩
  · exact ⟨false, ch, Or.inr ⟨h, rfl, rfl⟩⟩
end Go.Proofs.Ytjfkpjooandpeaa
