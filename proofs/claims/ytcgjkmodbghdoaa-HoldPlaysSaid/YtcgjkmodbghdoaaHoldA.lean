/- The document's example of holdoff, asked; what notes leave. -/
import Derived.Test.YtcgjkmodbghdoaaHoldV
namespace Go.Proofs.Ytcgjkmodbghdoaa
open Go Go.RowKit Go.Maps

def sA : ByteArray := ⟨#[97]⟩
def sB : ByteArray := ⟨#[98]⟩
def sC : ByteArray := ⟨#[99]⟩

theorem awake_any (w : World) : Calls Try.prog 8 #[] w fun e w' => e = .returned (.bool true) ∧ Keep NoB w w' := by
  go_enter Try.func8, Try.ntmps8
  go_wp2_with fail
  refine (new_any 1 _).mono ?_
  rintro _ w1 ⟨rfl, T1, hk1, hs1⟩
  have hs1' := Lib.hid hs1
  clear hs1
  go_wp2_with fail
  refine (note_any _ _ 1 0 [] sA 5 _ T1 (by decide) (by decide) 0 [(kS sA, 5)] (by decide) rfl).mono ?_
  rintro _ w2 ⟨rfl, T2, hk2⟩
  go_wp2_with fail
  refine (note_any _ _ 1 0 _ sB 7 _ T2 (by decide) (by decide) 7 [(kS sA, 5)] (by decide) rfl).mono ?_
  rintro _ w3 ⟨rfl, T3, hk3⟩
  go_wp2_with fail
  refine (allows_any _ _ 1 7 _ sA 5 _ T3 (by decide) false (by decide)).mono ?_
  rintro _ _ ⟨rfl, rfl⟩
  go_wp2_with fail
  refine (allows_any _ _ 1 7 _ sA 7 _ T3 (by decide) true (by decide)).mono ?_
  rintro _ _ ⟨rfl, rfl⟩
  go_wp2_with fail
  refine (pass_any _ _ 1 7 _ 6 _ T3 (by decide) 7 (Or.inr (by decide))).mono ?_
  rintro _ w4 ⟨rfl, T4, hk4⟩
  go_wp2_with fail
  refine (allows_any _ _ 1 7 _ sC 6 _ T4 (by decide) false (by decide)).mono ?_
  rintro _ _ ⟨rfl, rfl⟩
  go_wp2_with fail
  refine (pass_any _ _ 1 7 _ 7 _ T4 (by decide) 0 (Or.inl (by decide))).mono ?_
  rintro _ w5 ⟨rfl, T5, hk5⟩
  go_wp2_with fail
  refine (allows_any _ _ 1 0 _ sC 0 _ T5 (by decide) true (by decide)).mono ?_
  rintro _ _ ⟨rfl, rfl⟩
  go_wp2
  go_ret
  refine ⟨rfl, ?_⟩
  have hx : ∀ i, i < w.heap.size → TwoB (w.heap.size + 1) w.heap.size i → NoB i := fun i hi e => by rcases e with e | e <;> omega
  exact ((((hk1.trans' hk2 hx).trans' hk3 hx).trans' hk4 hx).trans' hk5 hx)

/-- What notes whose greatest index is 'most' leave. -/
structure Noted (limit floor : Int) (L : List (Lit × Int)) (most : Int) : Prop where
  lo : 0 ≤ floor
  hi : floor ≤ most
  vals : ∀ p ∈ L, p.2 ≤ most
  len : (L.length : Int) ≤ max limit 0
  apart : Apart L

theorem mem_lput {α : Type} {L : List (Lit × α)} {k : Lit} {v : α} {p : Lit × α} (h : p ∈ lput L k v) : p = (k, v) ∨ p ∈ L := by
  rcases mem_lins.1 h with h | h
  · exact Or.inl h
  · exact Or.inr (List.mem_filter.1 h).1

theorem noted_start (limit : Int) : Noted limit 0 [] 0 := ⟨by omega, by omega, by simp, by simp; omega, List.Pairwise.nil⟩

theorem noted_step {limit floor : Int} {L : List (Lit × Int)} {most : Int} (h : Noted limit floor L most) (k : Lit) (i : Int) (ha : Apart (noteL limit L k i)) :
    Noted limit (noteFl limit floor L k i) (noteL limit L k i) (max most i) := by
  obtain ⟨h1, h2, h3, h4, h5⟩ := h
  refine ⟨?_, ?_, ?_, ?_, ha⟩
  · unfold noteFl
    split
    · exact h1
    · split
      · exact h1
      · split <;> omega
  · unfold noteFl
    split
    · omega
    · split
      · omega
      · split <;> omega
  · unfold noteL
    split
    · intro p hp; have := h3 p hp; omega
    · split
      · rename_i n hg
        intro p hp
        rcases mem_lput hp with rfl | hp
        · have := h3 _ (mem_of_lget hg)
          simp only at this ⊢
          omega
        · have := h3 p hp; omega
      · split
        · intro p hp
          rcases mem_lput hp with rfl | hp
          · simp only; omega
          · have := h3 p hp; omega
        · intro p hp; have := h3 p hp; omega
  · unfold noteL
    split
    · exact h4
    · split
      · rename_i n hg
        rw [length_lput h5, hg]
        simpa using h4
      · rename_i hg
        split
        · rw [length_lput h5, hg]
          simp
          omega
        · exact h4

theorem noted_allows {limit floor : Int} {L : List (Lit × Int)} {most : Int} (h : Noted limit floor L most) (k : Lit) : allowsB floor L k most = true := by
  unfold allowsB
  rw [Bool.and_eq_true]
  refine ⟨by simpa using h.hi, ?_⟩
  cases hg : lget L k with
  | none => rfl
  | some n => simpa using h.vals _ (mem_of_lget hg)

theorem note_holds (limit floor : Int) (L : List (Lit × Int)) (k : Lit) (hk : WideAt.IsKeyLit k) (i : Int) (hi : 1 ≤ i) : allowsB (noteFl limit floor L k i) (noteL limit L k i) k (i - 1) = false := by
  have h0 : ¬ i < 1 := by omega
  unfold allowsB noteFl noteL
  rw [if_neg h0, if_neg h0]
  cases hg : lget L k with
  | some n =>
    simp only [lget_lput_same hk]
    have : decide (max n i ≤ i - 1) = false := by simp; omega
    rw [this, Bool.and_false]
  | none =>
    simp only
    by_cases hl : (L.length : Int) < limit
    · rw [if_pos hl, if_pos hl]
      simp only [lget_lput_same hk]
      have : decide (max 0 i ≤ i - 1) = false := by simp; omega
      rw [this, Bool.and_false]
    · rw [if_neg hl, if_neg hl]
      have : decide (max floor i ≤ i - 1) = false := by simp; omega
      rw [this, Bool.false_and]

theorem noted_pass {limit floor : Int} {L : List (Lit × Int)} {most : Int} (h : Noted limit floor L most) : passL L most = [] := by
  unfold passL
  rw [List.filter_eq_nil_iff]
  intro p hp
  have := h.vals p hp
  simp
  omega
theorem note_len (limit : Int) (L : List (Lit × Int)) (ha : Apart L) (k : Lit) (i : Int) : (noteL limit L k i).length ≤ L.length + 1 := by
  unfold noteL
  split
  · omega
  · split
    · rw [length_lput ha]; split <;> omega
    · split
      · rw [length_lput ha]; split <;> omega
      · omega
end Go.Proofs.Ytcgjkmodbghdoaa
