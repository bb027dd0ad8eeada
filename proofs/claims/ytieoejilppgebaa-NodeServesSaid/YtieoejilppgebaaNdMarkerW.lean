/- What the functions of package marker come to: the key, New, Len. -/
import Derived.Test.YtieoejilppgebaaRows
import Derived.Test.YtieoejilppgebaaLibMap
import Derived.Test.YtieoejilppgebaaLibRange
import Derived.DeepKeys4
namespace Go.Proofs.Ytieoejilppgebaa.Mk
open Go Go.RowKit Go.Maps
set_option maxRecDepth 100000

abbrev MK := ByteArray × Int × Int
def mV (x : MK) : Value := .agg #[.string x.1, .int .i64 x.2.1, .int .i64 x.2.2]
def mLits (x : MK) : List Lit := [.string x.1.data.toList, .int .i64 x.2.1, .int .i64 x.2.2]
def kM (x : MK) : Lit := .string (keyBytes (mLits x))
def mOk (x : MK) : Prop := x.1.size ≤ maxLen ∧ (Lit.int .i64 x.2.1).wf = true ∧ (Lit.int .i64 x.2.2).wf = true
theorem kM_key (x : MK) : WideAt.IsKeyLit (kM x) := trivial
theorem laid : laidOutB Try.prog = true := by kernel_rfl
theorem row37 : (97 : TypeId) < Try.prog.types.size := of_decide_eq_true (by kernel_rfl)
theorem wide37 : (match Try.prog.underlying 97 with | some (.array _ _) | some (.struct _) => true | _ => false) = true := by rw [Try.underlying97]
set_option maxRecDepth 100000 in
theorem law37 : Keyed Try.prog 97 := Keyed.of_law (deep_law_laid laid (m := 2) (by omega) row37 (by kernel_rfl) wide37)
theorem ktype37 : Try.prog.keyType 97 = true := by kernel_rfl
theorem cells37 : Try.prog.cellsOf 97 = 3 := by kernel_rfl
theorem cells9 : Try.prog.cellsOf 9 = 1 := by kernel_rfl
theorem cells3 : Try.prog.cellsOf 3 = 1 := by kernel_rfl
theorem formed37 (x : MK) : (mV x).formed Try.prog 97 = true := by simp [mV, Value.formed, Try.underlying97, cells37]
theorem lits37 (x : MK) (h : mOk x) (d : Nat) : Try.prog.keyLits (d + 2) 97 [.string x.1, .int .i64 x.2.1, .int .i64 x.2.2] = some (mLits x) := by
  obtain ⟨h1, h2, h3⟩ := h
  simp [Program.keyLits, Try.underlying97, Try.underlying9, Try.underlying3, cells37, cells9, cells3, h1, h2, h3, mLits]
theorem size_pos : ∃ d, Try.prog.types.size + 1 = d + 2 := ⟨Try.prog.types.size - 1, by have := row37; have h : (97 : Nat) < Try.prog.types.size := this; omega⟩
theorem keyOf_mV (x : MK) (h : mOk x) : keyOf Try.prog 97 (mV x) = some (kM x) := by
  obtain ⟨d, hd⟩ := size_pos
  have := lits37 x h d
  rw [← hd] at this
  unfold keyOf
  rw [Try.underlying97]
  simp only [ktype37, formed37, Bool.and_self, if_true]
  show (Try.prog.keyLits (Try.prog.types.size + 1) 97 [.string x.1, .int .i64 x.2.1, .int .i64 x.2.2]).map _ = _
  rw [this]
  rfl
theorem kM_inj {x y : MK} (hx : mOk x) (hy : mOk y) (h : kM x = kM y) : x = y := by
  have := law37.inj (keyOf_mV x hx) (h ▸ keyOf_mV y hy)
  simp only [mV, Value.agg.injEq, Array.mk.injEq, List.cons.injEq, Value.string.injEq, Value.int.injEq, and_true, true_and] at this
  exact Prod.ext this.1 (Prod.ext this.2.1 this.2.2)
end Go.Proofs.Ytieoejilppgebaa.Mk
