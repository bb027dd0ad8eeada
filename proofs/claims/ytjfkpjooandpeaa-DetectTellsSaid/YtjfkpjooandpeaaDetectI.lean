/- Slices of integers among the arguments. -/
import Derived.Test.YtjfkpjooandpeaaDetectQ2
import Derived.Test.YtjfkpjooandpeaaLibRead
namespace Go.Proofs.Ytjfkpjooandpeaa
open Go Go.RowKit Go.Maps Go.ChangeShapes Go.WideShapes

def IsInt (w : World) (a : Option Addr) (len : Nat) (z : Nat → Int) : Prop :=
  len ≤ maxLen ∧ (len = 0 ∨ ∃ b off, a = some ⟨b, off, none⟩ ∧ b < w.heap.size ∧ ∀ i, i < len → w.cell? ⟨b, off + i, none⟩ = some (.int .i64 (z i)))
theorem IsInt.keep {w w' : World} {a : Option Addr} {len : Nat} {z : Nat → Int} (h : IsInt w a len z) (hk : Keep NoB w w') : IsInt w' a len z := by
  obtain ⟨h1, h3⟩ := h
  refine ⟨h1, ?_⟩
  rcases h3 with h | ⟨b, off, ha, hb, hc⟩
  · exact Or.inl h
  · exact Or.inr ⟨b, off, ha, Nat.lt_of_lt_of_le hb hk.size, fun i hi => (hk.cell (p := ⟨b, off + i, none⟩) hb (fun h => h)).trans (hc i hi)⟩
theorem IsInt.cell {w : World} {a : Option Addr} {len : Nat} {z : Nat → Int} (h : IsInt w a len z) {i : Nat} (hi : i < len) : ∃ b off, a = some ⟨b, off, none⟩ ∧ b < w.heap.size ∧ w.cell? ⟨b, off + i, none⟩ = some (.int .i64 (z i)) := by
  obtain ⟨_, h3⟩ := h
  rcases h3 with h | ⟨b, off, ha, hb, hc⟩
  · omega
  · exact ⟨b, off, ha, hb, hc i hi⟩

theorem info3f : flat Try.prog 5 3 = some [.i .i64] := by kernel_rfl
section
variable {H : Type} {enc : TypeId × Value → H} {W : World}
theorem int_cells {cs : List Value} {sp : Nat → Bool} {held : Bool} (h : CKall enc Try.prog W 0 sp held [.i .i64] cs) : ∃ x : Int, cs = [.int .i64 x] := by
  obtain _ | ⟨c0, _ | ⟨c1, r⟩⟩ := cs
  · exact h.elim
  · obtain ⟨⟨s, rfl, hs⟩, _⟩ := h
    exact ⟨s, rfl⟩
  · exact h.2.elim
theorem ints_open {r : Reach} {b0 : Nat} {v : Value} {d : DataW H} {p : List MemPlace} (hv : Value.okWide Try.prog W r b0 22 v) (h : DataW.Trod enc Try.prog W 0 (fun _ => true) true 22 v d p) :
    ∃ a len cap z, v = .slice a len cap ∧ IsInt W a len z := by
  obtain ⟨a, len, cap, rfl, hl, hm, hr⟩ := open_row Try.underlying22 info3f (by kernel_rfl) (by decide) hv h
  obtain ⟨z, hz⟩ := choose_row hr (fun s : Int => [Value.int .i64 s]) (fun i cs hcs => int_cells hcs)
  refine ⟨a, len, cap, z, rfl, by omega, ?_⟩
  rcases hz with h0 | ⟨b, off, ha, hb, hi⟩
  · exact Or.inl h0
  · exact Or.inr ⟨b, off, ha, hb, fun i hi' => by have := (hi i hi').2 0 (by simp); simpa using this⟩
end
end Go.Proofs.Ytjfkpjooandpeaa
