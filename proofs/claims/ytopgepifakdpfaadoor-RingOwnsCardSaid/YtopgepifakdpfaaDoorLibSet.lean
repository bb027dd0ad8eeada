/- A store into a slice of the call's own. -/
import Derived.Test.YtopgepifakdpfaaDoorLibOwn
namespace Go.Proofs.YtopgepifakdpfaaDoor
open Go Go.RowKit Go.Maps

variable {α : Type}

theorem flat_set {enc : α → List Value} (henc : ∀ x, (enc x).length = 1) (y : α) (u : Value) (hy : enc y = [u]) : ∀ (N : List α) (j : Nat), (N.set j y).flatMap enc = (N.flatMap enc).set j u
  | [], j => by simp
  | x :: N, 0 => by
    obtain ⟨v, hv⟩ := List.length_eq_one_iff.1 (henc x)
    simp [hy, hv]
  | x :: N, j + 1 => by
    obtain ⟨v, hv⟩ := List.length_eq_one_iff.1 (henc x)
    simp [hv, flat_set henc y u hy N j]

/-- A store of an element of one cell. -/
theorem Own.store {w : World} {B : Nat} {e : TypeId} {enc : α → List Value} {g n cap : Nat} {N : List α} (h : Own w B e 1 enc (.slice (Option.some ⟨g, 0, none⟩) n cap) N) (henc : ∀ x, (enc x).length = 1) (j : Nat) (y : α) {u : Value} (hy : enc y = [u]) :
    Own (w.setCell ⟨g, j, none⟩ u) B e 1 enc (.slice (Option.some ⟨g, 0, none⟩) n cap) (N.set j y) := by
  obtain ⟨rfl, _⟩ := h.room
  have := (World.ownsRow.stored h j u).1
  rw [← flat_set henc y u hy N j] at this
  unfold Own
  rw [List.length_set]
  exact this

/-- One of its cells, where an element has one. -/
theorem Own.cell1 {w : World} {B : Nat} {e : TypeId} {enc : α → List Value} {a : Option Addr} {n cap : Nat} {N : List α} (h : Own w B e 1 enc (.slice a n cap) N) (henc : ∀ x, (enc x).length = 1) {j : Nat} {x : α} (hx : N[j]? = Option.some x) {u : Value} (hu : enc x = [u]) :
    ∃ g, a = Option.some ⟨g, 0, none⟩ ∧ B ≤ g ∧ g < w.heap.size ∧ w.cell? ⟨g, j, none⟩ = Option.some u ∧ w.frozen? ⟨g, j, none⟩ = false := by
  obtain ⟨g, c, hv, h1, h2, h3⟩ := h.cells henc hx
  cases hv
  have := h3 0 u (by rw [hu]; rfl)
  exact ⟨g, rfl, h1, h2, by simpa using this, h.free rfl⟩

def cI (x : Int) : List Value := [.int .i64 x]
def cS (s : ByteArray) : List Value := [.string s]
theorem cI_len (x : Int) : (cI x).length = 1 := rfl
theorem cS_len (x : ByteArray) : (cS x).length = 1 := rfl
theorem cI_one (x : Int) : ∀ u ∈ cI x, u.oneCell' = true := by intro u hu; simp [cI] at hu; subst hu; rfl
theorem cS_one (x : ByteArray) : ∀ u ∈ cS x, u.oneCell' = true := by intro u hu; simp [cS] at hu; subst hu; rfl
end Go.Proofs.YtopgepifakdpfaaDoor
