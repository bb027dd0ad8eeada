/- A slice of texts among the arguments, opened. -/
import Derived.Test.YtbaojfjabhgohaaLinkG
import Derived.Test.YtbaojfjabhgohaaLibRead
namespace Go.Proofs.Ytbaojfjabhgohaa
open Go Go.RowKit Go.Maps Go.ChangeShapes Go.WideShapes

theorem info5g : flat Try.prog 5 5 = some [.i .u8] := by kernel_rfl
theorem info27f : flat Try.prog 5 27 = some [.sl 5] := by kernel_rfl

section
variable {H : Type} {enc : TypeId × Value → H} {W : World}

theorem rd_of_ck2 {v : Value} {sp : Nat → Bool} {held : Bool} (h : CKok enc Try.prog W 0 sp held (.sl 5) v) : ∃ a c l, v = .slice a (l : List UInt8).length c ∧ Rd W v l ∧ l.length ≤ maxLen := by
  obtain ⟨a, len, cap, rfl, hl, hm, hr⟩ := row_of_ck info5g (by kernel_rfl) (by decide) h
  obtain ⟨z, hz⟩ := choose_row hr (fun b : UInt8 => [Value.int .u8 b.toNat]) (fun i cs hcs => by
    obtain _ | ⟨c0, _ | ⟨c1, r⟩⟩ := cs
    · exact hcs.elim
    · obtain ⟨⟨n, rfl, hn⟩, _⟩ := hcs
      have hb := bounds_u8 hn
      refine ⟨UInt8.ofNat n.toNat, ?_⟩
      have : ((UInt8.ofNat n.toNat).toNat : Int) = n := by simp; omega
      rw [this]
    · exact hcs.2.elim)
  have hlen : ((List.range len).map z).length = len := by simp
  refine ⟨a, cap, (List.range len).map z, by rw [hlen], ⟨a, cap, by rw [hlen], by rw [hlen]; exact hl, ?_⟩, by rw [hlen]; omega⟩
  intro j b hj
  have hjl : j < len := by have := (List.getElem?_eq_some_iff.1 hj).1; simpa using this
  simp [hjl] at hj
  subst hj
  rcases hz with h0 | ⟨g, off, ha, _, hi⟩
  · omega
  · refine ⟨_, ha, ?_⟩
    have := (hi j hjl).2 0 (by decide)
    rw [add_plain]
    simpa using this


theorem tx_open {r : Reach} {b0 : Nat} {v : Value} {d : DataW H} {p : List MemPlace} (hv : Value.okWide Try.prog W r b0 38 v) (h : DataW.Trod enc Try.prog W 0 (fun _ => true) true 38 v d p) :
    ∃ a len cap z, v = .slice a len cap ∧ IsTx W a len z := by
  obtain ⟨a, len, cap, rfl, hl, hm, hr⟩ := open_row Try.underlying38 info27f (by kernel_rfl) (by decide) hv h
  have : ∀ i, ∃ x : TX, i < len → (Rd W x.v x.l ∧ x.l.length ≤ maxLen) ∧ ∃ b off, a = some ⟨b, off, none⟩ ∧ b < W.heap.size ∧ W.cell? ⟨b, off + i, none⟩ = some x.v := by
    intro i
    by_cases hi : i < len
    · rcases hr with h0 | ⟨b, off, ha, hb, hc⟩
      · omega
      · obtain ⟨cs, h1, h2, h3⟩ := hc i hi
        obtain _ | ⟨c0, _ | ⟨c1, r⟩⟩ := cs
        · exact h1.elim
        · obtain ⟨a', cp, l, e, hrd, hll⟩ := rd_of_ck2 h1.1
          subst e
          refine ⟨⟨a', cp, l⟩, fun _ => ⟨⟨hrd, hll⟩, b, off, ha, hb, ?_⟩⟩
          have := h3 0 (by decide)
          simpa [TX.v] using this
        · exact h1.2.elim
    · exact ⟨default, fun h => absurd h hi⟩
  have hch : ∃ z : Nat → TX, ∀ i, i < len → (Rd W (z i).v (z i).l ∧ (z i).l.length ≤ maxLen) ∧ ∃ b off, a = some ⟨b, off, none⟩ ∧ b < W.heap.size ∧ W.cell? ⟨b, off + i, none⟩ = some (z i).v := ⟨fun i => Classical.choose (this i), fun i => Classical.choose_spec (this i)⟩
  obtain ⟨z, hz⟩ := hch
  refine ⟨a, len, cap, z, rfl, by omega, fun i hi => (hz i hi).1, ?_⟩
  by_cases h0 : len = 0
  · exact Or.inl h0
  · right
    obtain ⟨_, b, off, ha, hb, _⟩ := hz 0 (by omega)
    refine ⟨b, off, ha, hb, fun i hi => ?_⟩
    obtain ⟨_, b', off', ha', _, hc'⟩ := hz i hi
    rw [ha] at ha'
    cases ha'
    exact hc'
end
end Go.Proofs.Ytbaojfjabhgohaa
