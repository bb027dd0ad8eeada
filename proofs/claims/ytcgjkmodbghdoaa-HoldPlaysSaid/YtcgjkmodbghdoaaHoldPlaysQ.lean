/- The table of tombstones and the reference's, side by side: the state of HoldPlays. -/
import Derived.Test.YtcgjkmodbghdoaaHoldR3
import Derived.Test.YtcgjkmodbghdoaaHoldBoundW
namespace Go.Proofs.Ytcgjkmodbghdoaa
open Go Go.RowKit Go.Maps Go.Sort

/-! ### plain -/
theorem note_plan {limit floor : Int} {N : List TB} (hr : Rise N) (s : ByteArray) (i : Int) :
    ∃ N' fl', NoteCase limit floor N s i N' fl' ∧ noteL limit (absR N) (kS s) i = absR N' ∧ noteFl limit floor (absR N) (kS s) i = fl' ∧ Rise N' ∧ N'.length ≤ N.length + 1 := by
  by_cases h1 : i < 1
  · exact ⟨N, floor, .zero h1, by unfold noteL; rw [if_pos h1], by unfold noteFl; rw [if_pos h1], hr, by omega⟩
  · rcases rplace_case N s with ⟨x, hx, hs⟩ | hn
    · subst hs
      have hg : lget (absR N) (kS x.1) = some x.2 := absR_some hr (List.mem_of_getElem? hx)
      have hp : rput N x.1 (max x.2 i) = N.set (rplace N x.1) (x.1, max x.2 i) := rput_there x.1 _ N x hx rfl
      refine ⟨_, _, .there h1 x hx rfl, ?_, ?_, ?_, ?_⟩
      · unfold noteL
        rw [if_neg h1, hg, ← hp]
        exact absR_put x.1 _ N hr
      · unfold noteFl
        rw [if_neg h1, hg]
      · rw [← hp]
        exact rput_rise _ _ _ hr
      · rw [List.length_set]; omega
    · have hg : lget (absR N) (kS s) = none := absR_none (rplace_none hr hn)
      by_cases hl : (N.length : Int) < limit
      · refine ⟨_, _, .new h1 hn hl, ?_, ?_, rput_rise _ _ _ hr, rput_len _ _ _⟩
        · unfold noteL
          rw [if_neg h1, hg]
          simp only [absR_len]
          rw [if_pos hl, show max 0 i = i by omega]
          exact absR_put s _ N hr
        · unfold noteFl
          rw [if_neg h1, hg]
          simp only [absR_len]
          rw [if_pos hl]
      · refine ⟨_, _, .full h1 hn hl, ?_, ?_, hr, by omega⟩
        · unfold noteL
          rw [if_neg h1, hg]
          simp only [absR_len]
          rw [if_neg hl]
        · unfold noteFl
          rw [if_neg h1, hg]
          simp only [absR_len]
          rw [if_neg hl]
theorem pass_abs (N : List TB) (i : Int) : passL (absR N) i = absR (passN N i) := absR_filter N (fun v => decide (i < v))
theorem allows_plan {floor : Int} {N : List TB} (hr : Rise N) (s : ByteArray) (a : Int) :
    ((∃ x ∈ N, x.1 = s ∧ a < x.2) → allowsB floor (absR N) (kS s) a = false) ∧ ((∀ x ∈ N, ¬ (x.1 = s ∧ a < x.2)) → decide (floor ≤ a) = allowsB floor (absR N) (kS s) a) := by
  constructor
  · rintro ⟨x, hx, rfl, h⟩
    have hg : lget (absR N) (kS x.1) = some x.2 := absR_some hr hx
    unfold allowsB
    rw [hg]
    have : decide (x.2 ≤ a) = false := decide_eq_false (by omega)
    simp only [this, Bool.and_false]
  · intro h
    unfold allowsB
    rcases rplace_case N s with ⟨x, hx, hs⟩ | hn
    · subst hs
      have hm := List.mem_of_getElem? hx
      have hg : lget (absR N) (kS x.1) = some x.2 := absR_some hr hm
      have h3 := h x hm
      have : decide (x.2 ≤ a) = true := decide_eq_true (by by_cases h4 : x.2 ≤ a; exact h4; exact absurd ⟨rfl, by omega⟩ h3)
      rw [hg]
      simp only [this, Bool.and_true]
    · have hg : lget (absR N) (kS s) = none := absR_none (rplace_none hr hn)
      rw [hg]
      simp

/-! ### the state -/
structure PB (w : World) (tb mb rb : Nat) : Prop where
  lo1 : w.heap.size ≤ tb
  lo2 : w.heap.size ≤ mb
  hi1 : tb < rb
  hi2 : mb < rb

structure HS (w wx : World) (tb mb rb : Nat) (limit fl : Int) (N : List TB) (k : Nat) : Prop where
  T : Tab wx tb mb limit fl (absR N)
  R : ∃ a cap, RT wx rb rb a cap limit fl N
  rise : Rise N
  len : N.length ≤ k
  hk : Keep NoB w wx

section
variable {w wx w' : World} {tb mb rb : Nat} {limit fl : Int} {N : List TB} {k : Nat}
theorem HS.keep (D : HS w wx tb mb rb limit fl N k) (hk : Keep NoB wx w') : HS w w' tb mb rb limit fl N k := by
  obtain ⟨a, cap, R⟩ := D.R
  exact ⟨D.T.keep hk (fun h => h) (fun h => h), ⟨a, cap, R.keep0 hk⟩, D.rise, D.len, D.hk.trans hk⟩
theorem HS.later (D : HS w wx tb mb rb limit fl N k) {k' : Nat} (h : k ≤ k') : HS w wx tb mb rb limit fl N k' := ⟨D.T, D.R, D.rise, by have := D.len; omega, D.hk⟩
theorem HS.lt (D : HS w wx tb mb rb limit fl N k) : rb < wx.heap.size := by obtain ⟨a, cap, R⟩ := D.R; exact blk_lt R.blk
theorem PB.two (h : PB w tb mb rb) : ∀ i, i < w.heap.size → TwoB tb mb i → NoB i := fun i hi e => by have := h.lo1; have := h.lo2; rcases e with e | e <;> omega
theorem PB.one (h : PB w tb mb rb) : ∀ i, i < w.heap.size → OneB rb i → NoB i := fun i hi e => by have := h.lo1; have := h.hi1; have e' : i = rb := e; omega
theorem PB.own (h : PB w tb mb rb) {a : Option Addr} {cap : Nat} (R : RT wx rb rb a cap limit fl N) : ∀ i, i < w.heap.size → RBk rb (.slice a N.length cap) i → NoB i := fun i hi e => by
  have := h.lo1
  have := h.hi1
  rcases e with e | e
  · omega
  · have := R.own.fresh i e; omega
theorem RT.two (h : PB w tb mb rb) {a : Option Addr} {cap : Nat} (R : RT wx rb rb a cap limit fl N) (hk : Keep (TwoB tb mb) wx w') : RT w' rb rb a cap limit fl N := by
  have h1 := h.hi1
  have h2 := h.hi2
  exact R.keep hk (fun e => by rcases e with e | e <;> omega) (fun g hg e => by have := R.own.fresh g hg; rcases e with e | e <;> omega)
theorem Tab.own (h : PB w tb mb rb) {a : Option Addr} {cap : Nat} {L : List (Lit × Int)} (R : RT wx rb rb a cap limit fl N) {fl2 : Int} (T : Tab wx tb mb limit fl2 L) (hk : Keep (RBk rb (.slice a N.length cap)) wx w') : Tab w' tb mb limit fl2 L := by
  have h1 := h.hi1
  have h2 := h.hi2
  exact T.keep hk (fun e => by rcases e with e | e; omega; have := R.own.fresh _ e; omega) (fun e => by rcases e with e | e; omega; have := R.own.fresh _ e; omega)
theorem Tab.one (h : PB w tb mb rb) {L : List (Lit × Int)} {fl2 : Int} (T : Tab wx tb mb limit fl2 L) (hk : Keep (OneB rb) wx w') : Tab w' tb mb limit fl2 L := by
  have h1 := h.hi1
  have h2 := h.hi2
  exact T.keep hk (fun e => by have e' : tb = rb := e; omega) (fun e => by have e' : mb = rb := e; omega)
theorem passN_len (N : List TB) (i : Int) : (passN N i).length ≤ N.length := List.length_filter_le _ _
end
end Go.Proofs.Ytcgjkmodbghdoaa
