/- The detector and the reference, side by side: the state of DetectPlays. -/
import Derived.Test.YtjfkpjooandpeaaDetectQ4
namespace Go.Proofs.Ytjfkpjooandpeaa
open Go Go.RowKit Go.Maps Go.Sort

/-- An op: its number, its node. -/
abbrev DOp := Int × ByteArray
def IsDOp (w : World) (a : Option Addr) (len : Nat) (z : Nat → DOp) : Prop :=
  len ≤ maxLen ∧ (∀ i, i < len → (z i).2.size ≤ maxLen) ∧ (len = 0 ∨ ∃ b off, a = some ⟨b, off, none⟩ ∧ b < w.heap.size ∧ ∀ i, i < len → w.cell? ⟨b, off + i * 2, none⟩ = some (.int .i64 (z i).1) ∧ w.cell? ⟨b, off + i * 2 + 1, none⟩ = some (.string (z i).2))

/-- Blocks of detector and reference. -/
structure PB (w : World) (tb mb rb B : Nat) : Prop where
  lo1 : w.heap.size ≤ tb
  lo2 : w.heap.size ≤ mb
  hi1 : tb < B
  hi2 : mb < B
  rb : B ≤ rb

structure PS (w wx : World) (tb mb rb B : Nat) (p now ch : Int) (N : List RN) (k : Nat) : Prop where
  T : Tab wx tb mb p ch (absL p now N)
  R : ∃ a cap, RTab wx B rb a cap p now ch N
  rise : Rise N
  rv : RV now N
  len : N.length ≤ 200
  now0 : 0 ≤ now
  now1 : now ≤ k
  ch0 : 0 ≤ ch
  ch1 : ch ≤ 200 * k
  hB : B ≤ wx.heap.size
  hk : Keep NoB w wx

section
variable {w wx w' : World} {tb mb rb B : Nat} {p now ch : Int} {N : List RN} {k : Nat}
theorem PS.keep (D : PS w wx tb mb rb B p now ch N k) (hk : Keep NoB wx w') : PS w w' tb mb rb B p now ch N k := by
  obtain ⟨a, cap, R⟩ := D.R
  exact ⟨D.T.keep hk (fun h => h) (fun h => h), ⟨a, cap, R.keep0 hk⟩, D.rise, D.rv, D.len, D.now0, D.now1, D.ch0, D.ch1, Nat.le_trans D.hB hk.size, D.hk.trans hk⟩
theorem PS.later (D : PS w wx tb mb rb B p now ch N k) {k' : Nat} (h : k ≤ k') : PS w wx tb mb rb B p now ch N k' :=
  ⟨D.T, D.R, D.rise, D.rv, D.len, D.now0, by have := D.now1; omega, D.ch0, by have := D.ch1; omega, D.hB, D.hk⟩
theorem absL_length : (absL p now N).length = N.length := by simp [absL]
theorem abs_vals (hp : 1 ≤ p ∧ p ≤ 9223372036854775807) (hv : RV now N) : ∀ q ∈ absL p now N, 0 ≤ q.2 ∧ q.2 ≤ 9223372036854775807 := by
  intro q hq
  obtain ⟨x, hx, rfl⟩ := List.mem_map.1 hq
  have := hv x hx
  unfold leftN
  simp only
  split <;> omega
theorem rdies_len (p now : Int) (N : List RN) : (rdies p now N).length ≤ N.length := by
  unfold rdies
  rw [List.length_map]
  exact List.length_filter_le _ _
theorem rlive_len (p now : Int) (N : List RN) : (rlive p now N).length ≤ N.length := by
  unfold rlive
  rw [List.length_map]
  exact List.length_filter_le _ _

/-- Tick of the detector: half of the step. -/
theorem tick_ps (D : PS w wx tb mb rb B p now ch N k) (hb : PB w tb mb rb B) (hp : 1 ≤ p ∧ p ≤ 9223372036854775807) (hk : k ≤ 200) (M : List ByteArray) (hM : rdies p now N = M) :
    Calls Try.prog 9 #[.pointer (some ⟨tb, 0, none⟩)] wx fun e w' => ∃ a c, e = .returned (.slice a M.length c) ∧ Own w' wx.heap.size 9 1 cS (.slice a M.length c) M ∧ Tab w' tb mb p (ch + M.length) (absL p (now + 1) N) ∧ (∃ a cap, RTab w' B rb a cap p now ch N) ∧ Keep (TwoB tb mb) wx w' := by
  have h1 := D.len
  have h2 := D.ch0
  have h3 := D.ch1
  obtain ⟨a, cap, R⟩ := D.R
  refine (tick_any tb mb p ch (absL p now N) wx D.T (by rw [absL_length]; omega) (abs_vals hp D.rv) h2 (by omega) M (by rw [abs_dies, hM])).mono ?_
  rintro _ w' ⟨a', c', rfl, O', T', k'⟩
  rw [abs_tick] at T'
  have hb1 := hb.hi1
  have hb2 := hb.hi2
  have hb3 := hb.rb
  exact ⟨a', c', rfl, O', T', ⟨a, cap, R.keep k' (fun e => by rcases e with e | e <;> omega) (fun g hg e => by have := R.own.fresh g hg; rcases e with e | e <;> omega)⟩, k'⟩
theorem rv_tick (h : RV now N) : RV (now + 1) N := fun x hx => by have := h x hx; omega

/-- What a beat comes to, of both. -/
structure BeatStep (p now ch : Int) (N : List RN) (s : ByteArray) (r : Bool) (ch' : Int) (N' : List RN) : Prop where
  det : (lget (absL p now N) (kT s) = some 0 ∧ r = true ∧ ch' = ch + 1) ∨ (lget (absL p now N) (kT s) ≠ some 0 ∧ r = false ∧ ch' = ch)
  detL : beatL p (absL p now N) (kT s) = absL p now N'
  ref : (rfind N s 0 = -1 ∧ N' = N ∧ r = false ∧ ch' = ch) ∨ ∃ i x, rfind N s 0 = ((i : Nat) : Int) ∧ N[i]? = some x ∧ N' = N.set i (x.1, now) ∧ ((livesB p now x.2 = true ∧ r = false ∧ ch' = ch) ∨ (livesB p now x.2 = false ∧ r = true ∧ ch' = ch + 1))
  rise : Rise N'
  rv : RV now N'
  len : N'.length = N.length
  lo : ch ≤ ch'
  hi : ch' ≤ ch + 1
theorem rv_set (h : RV now N) (h0 : 0 ≤ now) {i : Nat} {y : ByteArray} : RV now (N.set i (y, now)) := by
  intro x hx
  rcases List.mem_or_eq_of_mem_set hx with h' | h'
  · exact h x h'
  · subst h'; exact ⟨h0, Int.le_refl _⟩
theorem beat_step (hp : 1 ≤ p) (h0 : 0 ≤ now) (hr : Rise N) (hv : RV now N) (ch : Int) (s : ByteArray) : ∃ r ch' N', BeatStep p now ch N s r ch' N' := by
  rcases rfind_cases s N 0 with ⟨h1, h2⟩ | ⟨i, x, h1, h2, h3⟩
  · have hg := abs_none (p := p) (now := now) h2
    exact ⟨false, ch, N, Or.inr ⟨by rw [hg]; simp, rfl, rfl⟩, by unfold beatL; rw [hg]; rfl, Or.inl ⟨h1, rfl, rfl, rfl⟩, hr, hv, rfl, Int.le_refl _, by omega⟩
  · subst h3
    have hg := abs_some (p := p) (now := now) hr (List.mem_of_getElem? h2)
    have hi : rfind N x.1 0 = ((i : Nat) : Int) := by rw [h1]; simp
    by_cases hl : now - x.2 < p
    · have e1 : livesB p now x.2 = true := by unfold livesB; exact decide_eq_true hl
      exact ⟨false, ch, N.set i (x.1, now), Or.inr ⟨by rw [hg]; unfold leftN; rw [if_pos hl]; simp; omega, rfl, rfl⟩, abs_beat hp hr h2, Or.inr ⟨i, x, hi, h2, rfl, Or.inl ⟨e1, rfl, rfl⟩⟩, set_rise hr h2 now, rv_set hv h0, List.length_set, Int.le_refl _, by omega⟩
    · have e1 : livesB p now x.2 = false := by unfold livesB; exact decide_eq_false hl
      exact ⟨true, ch + 1, N.set i (x.1, now), Or.inl ⟨by rw [hg]; unfold leftN; rw [if_neg hl], rfl, rfl⟩, abs_beat hp hr h2, Or.inr ⟨i, x, hi, h2, rfl, Or.inr ⟨e1, rfl, rfl⟩⟩, set_rise hr h2 now, rv_set hv h0, List.length_set, by omega, by omega⟩

/-- The detector's beat. -/
theorem dbeat_any {r : Bool} {ch' : Int} {N' : List RN} {s : ByteArray} (S : BeatStep p now ch N s r ch' N') (T : Tab wx tb mb p ch (absL p now N)) (hs : s.size ≤ maxLen) (hN : N.length ≤ 200) (h0 : 0 ≤ ch ∧ ch ≤ 100000) :
    Calls Try.prog 11 #[.pointer (some ⟨tb, 0, none⟩), .string s] wx fun e w' => e = .returned (.bool r) ∧ Tab w' tb mb p ch' (absL p now N') ∧ Keep (TwoB tb mb) wx w' :=
  beat_any tb mb p ch (absL p now N) s wx T hs (by rw [absL_length]; unfold maxLen; omega) h0.1 (by omega) r ch' S.det _ S.detL
/-- The reference's. -/
theorem rbeat_any {r : Bool} {ch' : Int} {N' : List RN} {s : ByteArray} {a : Option Addr} {cap : Nat} (S : BeatStep p now ch N s r ch' N') (R : RTab wx B rb a cap p now ch N) (hb : B ≤ rb) (hN : N.length ≤ 200) (hv : RV now N) (h : 0 ≤ now ∧ now ≤ 1000) (h0 : 0 ≤ ch ∧ ch ≤ 100000) :
    Calls Try.prog 15 #[.pointer (some ⟨rb, 0, none⟩), .string s] wx fun e w' => e = .returned (.bool r) ∧ (∃ a cap, RTab w' B rb a cap p now ch' N') ∧ Keep (RBk rb (.slice a N.length cap)) wx w' := by
  rcases S.ref with ⟨h1, rfl, rfl, rfl⟩ | ⟨i, x, h1, h2, rfl, h3⟩
  · refine (rbeat_no rb B a cap p now ch' N' s wx R (by omega) h1).mono ?_
    rintro _ _ ⟨rfl, rfl⟩
    exact ⟨rfl, ⟨a, cap, R⟩, Keep.refl _ _⟩
  · exact rbeat_yes rb B a cap p now ch N s wx R hb (by omega) hv h ⟨h0.1, by omega⟩ i x h1 h2 r ch' h3

/-- Does it live, of both. -/
theorem alive_case (hr : Rise N) (s : ByteArray) : ∃ v, aliveB (absL p now N) (kT s) = v ∧ ((rfind N s 0 = -1 ∧ v = false) ∨ ∃ i x, rfind N s 0 = ((i : Nat) : Int) ∧ N[i]? = some x ∧ livesB p now x.2 = v) := by
  rcases rfind_cases s N 0 with ⟨h1, h2⟩ | ⟨i, x, h1, h2, h3⟩
  · exact ⟨false, alive_none (abs_none h2), Or.inl ⟨h1, rfl⟩⟩
  · subst h3
    refine ⟨livesB p now x.2, ?_, Or.inr ⟨i, x, by rw [h1]; simp, h2, rfl⟩⟩
    unfold aliveB
    rw [abs_some hr (List.mem_of_getElem? h2)]
    exact left_lives
end
end Go.Proofs.Ytjfkpjooandpeaa
