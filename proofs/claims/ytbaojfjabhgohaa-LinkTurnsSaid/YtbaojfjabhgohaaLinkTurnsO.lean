/- The two arrays of LinkTurns, opened. -/
import Derived.Test.YtbaojfjabhgohaaLinkB
namespace Go.Proofs.Ytbaojfjabhgohaa
open Go Go.RowKit Go.Maps Go.ChangeShapes Go.WideShapes

theorem info56f : flat Try.prog 5 56 = some [.i .i64, .i .i64] := by kernel_rfl
theorem info57f : flat Try.prog 5 57 = some [.i .u8, .i .u8] := by kernel_rfl

section
variable {H : Type} {enc : TypeId × Value → H} {W : World}
theorem open_arr {t e : TypeId} {m : Nat} {r : Reach} {b0 : Nat} {v : Value} {d : DataW H} {p : List MemPlace} {n : Nat} {ks : List CK} {sp : Nat → Bool} {held : Bool} (ht : Try.prog.underlying t = some (.array m e)) (hf : flat Try.prog n t = some ks)
    (hv : Value.okWide Try.prog W r b0 t v) (h : DataW.Trod enc Try.prog W 0 sp held t v d p) : ∃ cs, v = .agg cs ∧ CKall enc Try.prog W 0 sp held ks cs.toList := by
  simp only [Value.okWide, ht] at hv
  obtain ⟨cs, rfl, _⟩ := hv
  obtain ⟨fuel, hx⟩ := h
  exact ⟨cs, rfl, by simpa [Value.cells] using trod_flat n t ks hf fuel _ _ hx⟩

theorem two_ints {cs : List Value} {sp : Nat → Bool} {held : Bool} (h : CKall enc Try.prog W 0 sp held [.i .i64, .i .i64] cs) : ∃ a b : Int, cs = [.int .i64 a, .int .i64 b] := by
  obtain _ | ⟨c0, _ | ⟨c1, _ | ⟨c2, r⟩⟩⟩ := cs
  · exact h.elim
  · exact h.2.elim
  · obtain ⟨⟨a, rfl, _⟩, ⟨b, rfl, _⟩, _⟩ := h
    exact ⟨a, b, rfl⟩
  · exact h.2.2.elim

theorem two_bytes {cs : List Value} {sp : Nat → Bool} {held : Bool} (h : CKall enc Try.prog W 0 sp held [.i .u8, .i .u8] cs) : ∃ a b : UInt8, cs = [.int .u8 a.toNat, .int .u8 b.toNat] := by
  obtain _ | ⟨c0, _ | ⟨c1, _ | ⟨c2, r⟩⟩⟩ := cs
  · exact h.elim
  · exact h.2.elim
  · obtain ⟨⟨a, rfl, ha⟩, ⟨b, rfl, hb⟩, _⟩ := h
    have h1 := bounds_u8 ha
    have h2 := bounds_u8 hb
    refine ⟨UInt8.ofNat a.toNat, UInt8.ofNat b.toNat, ?_⟩
    have e1 : ((UInt8.ofNat a.toNat).toNat : Int) = a := by simp; omega
    have e2 : ((UInt8.ofNat b.toNat).toNat : Int) = b := by simp; omega
    rw [e1, e2]
  · exact h.2.2.elim

theorem ints2_open {r : Reach} {b0 : Nat} {v : Value} {d : DataW H} {p : List MemPlace} (hv : Value.okWide Try.prog W r b0 56 v) (h : DataW.Trod enc Try.prog W 0 (fun _ => true) true 56 v d p) : ∃ a b : Int, v = .agg #[.int .i64 a, .int .i64 b] := by
  obtain ⟨cs, rfl, hc⟩ := open_arr Try.underlying56 info56f hv h
  obtain ⟨a, b, e⟩ := two_ints hc
  exact ⟨a, b, by rw [← Array.toArray_toList (xs := cs), e]⟩

theorem bytes2_open {r : Reach} {b0 : Nat} {v : Value} {d : DataW H} {p : List MemPlace} (hv : Value.okWide Try.prog W r b0 57 v) (h : DataW.Trod enc Try.prog W 0 (fun _ => true) true 57 v d p) : ∃ a b : UInt8, v = .agg #[.int .u8 a.toNat, .int .u8 b.toNat] := by
  obtain ⟨cs, rfl, hc⟩ := open_arr Try.underlying57 info57f hv h
  obtain ⟨a, b, e⟩ := two_bytes hc
  exact ⟨a, b, by rw [← Array.toArray_toList (xs := cs), e]⟩
end
end Go.Proofs.Ytbaojfjabhgohaa
