/- The arguments of LinkTrue and LinkPlays, opened. -/
import Derived.Test.YtbaojfjabhgohaaLinkTrueW
import Derived.Test.YtbaojfjabhgohaaLibRead
namespace Go.Proofs.Ytbaojfjabhgohaa
open Go Go.RowKit Go.Maps Go.ChangeShapes Go.WideShapes

theorem info29 : flat Try.prog 5 29 = some [.i .i64, .i .i64, .i .i64, .i .i64, .i .i64, .i .u8, .sl 5] := by kernel_rfl
theorem info5f : flat Try.prog 5 5 = some [.i .u8] := by kernel_rfl

section
variable {H : Type} {enc : TypeId × Value → H} {W : World}

theorem rd_of_ck {v : Value} {sp : Nat → Bool} {held : Bool} (h : CKok enc Try.prog W 0 sp held (.sl 5) v) : ∃ a c l, v = .slice a (l : List UInt8).length c ∧ Rd W v l ∧ l.length ≤ maxLen := by
  obtain ⟨a, len, cap, rfl, hl, hm, hr⟩ := row_of_ck info5f (by kernel_rfl) (by decide) h
  obtain ⟨z, hz⟩ := choose_row hr (fun b : UInt8 => [Value.int .u8 b.toNat]) (fun i cs hcs => by
    obtain _ | ⟨c0, _ | ⟨c1, r⟩⟩ := cs
    · exact hcs.elim
    · obtain ⟨⟨n, rfl, hn⟩, _⟩ := hcs
      have hb := bounds_u8 hn
      refine ⟨UInt8.ofNat n.toNat, ?_⟩
      have : ((UInt8.ofNat n.toNat).toNat : Int) = n := by simp; omega
      rw [this]
    · exact hcs.2.elim)
  have hlen : ((List.range len).map z).length = len := by simp
  refine ⟨a, cap, (List.range len).map z, by rw [hlen], ⟨a, cap, by rw [hlen], by rw [hlen]; exact hl, ?_⟩, by rw [hlen]; omega⟩
  intro j b hj
  have hjl : j < len := by have := (List.getElem?_eq_some_iff.1 hj).1; simpa using this
  simp [hjl] at hj
  subst hj
  rcases hz with h0 | ⟨g, off, ha, _, hi⟩
  · omega
  · refine ⟨_, ha, ?_⟩
    have := (hi j hjl).2 0 (by decide)
    rw [add_plain]
    simpa using this

theorem lk_cells {cs : List Value} {sp : Nat → Bool} {held : Bool} (h : CKall enc Try.prog W 0 sp held [.i .i64, .i .i64, .i .i64, .i .i64, .i .i64, .i .u8, .sl 5] cs) : ∃ x : LkOp, cs = lkCells x ∧ lkOk W x := by
  obtain _ | ⟨c0, _ | ⟨c1, _ | ⟨c2, _ | ⟨c3, _ | ⟨c4, _ | ⟨c5, _ | ⟨c6, _ | ⟨c7, r⟩⟩⟩⟩⟩⟩⟩⟩ := cs
  · exact h.elim
  · exact h.2.elim
  · exact h.2.2.elim
  · exact h.2.2.2.elim
  · exact h.2.2.2.2.elim
  · exact h.2.2.2.2.2.elim
  · exact h.2.2.2.2.2.2.elim
  · obtain ⟨⟨k, rfl, h0⟩, ⟨f, rfl, h1⟩, ⟨t, rfl, h2⟩, ⟨i, rfl, h3⟩, ⟨j, rfl, h4⟩, ⟨c, rfl, h5⟩, h6, _⟩ := h
    obtain ⟨a, cp, l, e, hr, hl⟩ := rd_of_ck h6
    subst e
    exact ⟨⟨k, f, t, i, j, c, a, cp, l⟩, rfl, h0, h1, h2, h3, h4, h5, hr, hl⟩
  · exact h.2.2.2.2.2.2.2.elim

instance : Inhabited LkOp := ⟨⟨0, 0, 0, 0, 0, 0, none, 0, []⟩⟩

theorem lk_open {r : Reach} {b0 : Nat} {v : Value} {d : DataW H} {p : List MemPlace} (hv : Value.okWide Try.prog W r b0 22 v) (h : DataW.Trod enc Try.prog W 0 (fun _ => true) true 22 v d p) :
    ∃ a len cap z, v = .slice a len cap ∧ IsLk W a len z := by
  obtain ⟨a, len, cap, rfl, hl, hm, hr⟩ := open_row Try.underlying22 info29 (by kernel_rfl) (by decide) hv h
  have : ∀ i, ∃ x : LkOp, i < len → lkOk W x ∧ ∃ b off, a = some ⟨b, off, none⟩ ∧ b < W.heap.size ∧ ∀ j, j < 7 → W.cell? ⟨b, off + i * 7 + j, none⟩ = (lkCells x)[j]? := by
    intro i
    by_cases hi : i < len
    · rcases hr with h0 | ⟨b, off, ha, hb, hc⟩
      · omega
      · obtain ⟨cs, h1, h2, h3⟩ := hc i hi
        obtain ⟨x, rfl, hx⟩ := lk_cells h1
        exact ⟨x, fun _ => ⟨hx, b, off, ha, hb, fun j hj => h3 j (by simpa using hj)⟩⟩
    · exact ⟨default, fun h => absurd h hi⟩
  have hch : ∃ z : Nat → LkOp, ∀ i, i < len → lkOk W (z i) ∧ ∃ b off, a = some ⟨b, off, none⟩ ∧ b < W.heap.size ∧ ∀ j, j < 7 → W.cell? ⟨b, off + i * 7 + j, none⟩ = (lkCells (z i))[j]? := ⟨fun i => Classical.choose (this i), fun i => Classical.choose_spec (this i)⟩
  obtain ⟨z, hz⟩ := hch
  refine ⟨a, len, cap, z, rfl, by omega, fun i hi => (hz i hi).1, ?_⟩
  by_cases h0 : len = 0
  · exact Or.inl h0
  · right
    obtain ⟨_, b, off, ha, hb, _⟩ := hz 0 (by omega)
    refine ⟨b, off, ha, hb, fun i hi j hj => ?_⟩
    obtain ⟨_, b', off', ha', _, hc'⟩ := hz i hi
    rw [ha] at ha'
    cases ha'
    exact hc' j hj
end
end Go.Proofs.Ytbaojfjabhgohaa
