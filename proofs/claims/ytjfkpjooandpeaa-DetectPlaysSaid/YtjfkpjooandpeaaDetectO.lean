/- The arguments of chapter 11's laws, opened. -/
import Derived.Test.YtjfkpjooandpeaaDetectV
import Derived.Test.YtjfkpjooandpeaaLibRead
namespace Go.Proofs.Ytjfkpjooandpeaa
open Go Go.RowKit Go.Maps Go.ChangeShapes Go.WideShapes

theorem info9f : flat Try.prog 5 9 = some [.s] := by kernel_rfl
theorem info44f : flat Try.prog 5 44 = some [.i .u8, .i .u8] := by kernel_rfl

section
variable {H : Type} {enc : TypeId × Value → H} {W : World}
theorem str_cells {cs : List Value} {sp : Nat → Bool} {held : Bool} (h : CKall enc Try.prog W 0 sp held [.s] cs) : ∃ x : ByteArray, cs = [.string x] ∧ x.size ≤ maxLen := by
  obtain _ | ⟨c0, _ | ⟨c1, r⟩⟩ := cs
  · exact h.elim
  · obtain ⟨⟨s, rfl, hs⟩, _⟩ := h
    exact ⟨s, rfl, hs⟩
  · exact h.2.elim
theorem strs_open {r : Reach} {b0 : Nat} {v : Value} {d : DataW H} {p : List MemPlace} (hv : Value.okWide Try.prog W r b0 26 v) (h : DataW.Trod enc Try.prog W 0 (fun _ => true) true 26 v d p) :
    ∃ a len cap z, v = .slice a len cap ∧ IsStr W a len z := by
  obtain ⟨a, len, cap, rfl, hl, hm, hr⟩ := open_row Try.underlying26 info9f (by kernel_rfl) (by decide) hv h
  have : Inhabited ByteArray := ⟨⟨#[]⟩⟩
  obtain ⟨z, hz⟩ := choose_row hr (fun s : ByteArray => [Value.string s]) (fun i cs hcs => let ⟨x, e, _⟩ := str_cells hcs; ⟨x, e⟩)
  refine ⟨a, len, cap, z, rfl, by omega, ?_, ?_⟩
  · rcases hz with h0 | ⟨b, off, _, _, hi⟩
    · intro i hi'; omega
    · intro i hi'
      obtain ⟨x, e, h1⟩ := str_cells (hi i hi').1
      simp only [List.cons.injEq, Value.string.injEq, and_true] at e
      rw [e]
      exact h1
  · rcases hz with h0 | ⟨b, off, ha, hb, hi⟩
    · exact Or.inl h0
    · exact Or.inr ⟨b, off, ha, hb, fun i hi' => by have := (hi i hi').2 0 (by simp); simpa using this⟩

theorem open_arr {t e : TypeId} {m : Nat} {r : Reach} {b0 : Nat} {v : Value} {d : DataW H} {p : List MemPlace} {n : Nat} {ks : List CK} {sp : Nat → Bool} {held : Bool} (ht : Try.prog.underlying t = some (.array m e)) (hf : flat Try.prog n t = some ks)
    (hv : Value.okWide Try.prog W r b0 t v) (h : DataW.Trod enc Try.prog W 0 sp held t v d p) : ∃ cs, v = .agg cs ∧ CKall enc Try.prog W 0 sp held ks cs.toList := by
  simp only [Value.okWide, ht] at hv
  obtain ⟨cs, rfl, _⟩ := hv
  obtain ⟨fuel, hx⟩ := h
  exact ⟨cs, rfl, by simpa [Value.cells] using trod_flat n t ks hf fuel _ _ hx⟩
theorem two_bytes {cs : List Value} {sp : Nat → Bool} {held : Bool} (h : CKall enc Try.prog W 0 sp held [.i .u8, .i .u8] cs) : ∃ a b : UInt8, cs = [.int .u8 a.toNat, .int .u8 b.toNat] := by
  obtain _ | ⟨c0, _ | ⟨c1, _ | ⟨c2, r⟩⟩⟩ := cs
  · exact h.elim
  · exact h.2.elim
  · obtain ⟨⟨a, rfl, ha⟩, ⟨b, rfl, hb⟩, _⟩ := h
    have h1 := bounds_u8 ha
    have h2 := bounds_u8 hb
    refine ⟨UInt8.ofNat a.toNat, UInt8.ofNat b.toNat, ?_⟩
    have e1 : ((UInt8.ofNat a.toNat).toNat : Int) = a := by simp; omega
    have e2 : ((UInt8.ofNat b.toNat).toNat : Int) = b := by simp; omega
    rw [e1, e2]
  · exact h.2.2.elim
theorem bytes2_open {r : Reach} {b0 : Nat} {v : Value} {d : DataW H} {p : List MemPlace} (hv : Value.okWide Try.prog W r b0 44 v) (h : DataW.Trod enc Try.prog W 0 (fun _ => true) true 44 v d p) : ∃ a b : UInt8, v = .agg #[.int .u8 a.toNat, .int .u8 b.toNat] := by
  obtain ⟨cs, rfl, hc⟩ := open_arr Try.underlying44 info44f hv h
  obtain ⟨a, b, e⟩ := two_bytes hc
  exact ⟨a, b, by rw [← Array.toArray_toList (xs := cs), e]⟩
end
end Go.Proofs.Ytjfkpjooandpeaa
