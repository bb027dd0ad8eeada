/- The struct among the arguments of LeaseApart, opened. -/
import Derived.Test.YtmndmgfianhbpaaLeaseApartW
import Derived.Test.YtmndmgfianhbpaaLibRead
namespace Go.Proofs.Ytmndmgfianhbpaa
open Go Go.RowKit Go.Maps Go.ChangeShapes Go.WideShapes

theorem info32 : flat Try.prog 5 32 = some [.i .u8, .i .i64] := by kernel_rfl

theorem harm_open {H : Type} {enc : TypeId × Value → H} {W : World} {r : Reach} {b0 : Nat} {v : Value} {d : DataW H} {p : List MemPlace} (hv : Value.okWide Try.prog W r b0 32 v) (h : DataW.Trod enc Try.prog W 0 (fun _ => true) true 32 v d p) :
    ∃ how tok, v = .agg #[.int .u8 how, .int .i64 tok] ∧ 0 ≤ how ∧ how ≤ 255 := by
  obtain ⟨⟨cs⟩, rfl, hc⟩ := open_flat (ks := [.i .u8, .i .i64]) Try.underlying32 info32 hv h
  simp only at hc
  obtain _ | ⟨c0, _ | ⟨c1, _ | ⟨c2, r⟩⟩⟩ := cs
  · exact hc.elim
  · exact hc.2.elim
  · obtain ⟨⟨a, rfl, ha⟩, ⟨b, rfl, hb⟩, _⟩ := hc
    simp only [Lit.wf, Bool.and_eq_true, decide_eq_true_eq] at ha
    exact ⟨a, b, rfl, ha.1, ha.2⟩
  · exact hc.2.2.elim
end Go.Proofs.Ytmndmgfianhbpaa
