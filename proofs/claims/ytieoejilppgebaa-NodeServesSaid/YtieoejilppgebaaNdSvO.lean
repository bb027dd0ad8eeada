/- The script of NodeServes, opened. -/
import Derived.Test.YtieoejilppgebaaNdSvS
import Derived.Test.YtieoejilppgebaaLibRead
import Derived.Test.YtieoejilppgebaaLibReg3
namespace Go.Proofs.Ytieoejilppgebaa
open Go Go.RowKit Go.Maps Go.ChangeShapes Go.WideShapes
set_option maxRecDepth 100000

structure WY where
  k : Int
  who : Int
  i : Int
  key : ByteArray
  text : ByteArray
instance : Inhabited WY := ⟨⟨0, 0, 0, ⟨#[]⟩, ⟨#[]⟩⟩⟩
def wCells (x : WY) : List Value := [.int .i64 x.k, .int .i64 x.who, .int .i64 x.i, .string x.key, .string x.text]
def wOk (x : WY) : Prop := (Lit.int .i64 x.k).wf = true ∧ (Lit.int .i64 x.who).wf = true ∧ (Lit.int .i64 x.i).wf = true ∧ x.key.size ≤ maxLen ∧ x.text.size ≤ maxLen
/-- What the walk is told of a script. -/
def IsW (w : World) (a : Option Addr) (len : Nat) (z : Nat → WY) : Prop :=
  len ≤ maxLen ∧ (∀ i, i < len → wOk (z i)) ∧ (len = 0 ∨ ∃ b off, a = some ⟨b, off, none⟩ ∧ b < w.heap.size ∧ ∀ i, i < len → ∀ j, j < 5 → w.cell? ⟨b, off + i * 5 + j, none⟩ = (wCells (z i))[j]?)
theorem info58f : flat Try.prog 5 58 = some [.i .i64, .i .i64, .i .i64, .s, .s] := by kernel_rfl
theorem bs55 (w : World) (n : Int) (key text : ByteArray) : (Instr.buildSlice 48 1 #[(0, .agg #[.int .i64 1, .int .i64 n, .int .i64 0, .int .i64 0, .string key, .bool false, .string text])]).run Try.prog w = .ok (.slice (some ⟨w.heap.size, 0, none⟩) 1 1) (w.alloc (.cells #[.int .i64 1, .int .i64 n, .int .i64 0, .int .i64 0, .string key, .bool false, .string text] 55)) := by
  go_simp
theorem bs62 (w : World) (who n tok e i : Int) (th : Bool) (key tx : ByteArray) : (Instr.buildSlice 52 1 #[(0, .agg #[.int .i64 who, .int .i64 n, .string key, .int .i64 tok, .int .i64 e, .int .i64 i, .bool th, .string tx])]).run Try.prog w = .ok (.slice (some ⟨w.heap.size, 0, none⟩) 1 1) (w.alloc (.cells #[.int .i64 who, .int .i64 n, .string key, .int .i64 tok, .int .i64 e, .int .i64 i, .bool th, .string tx] 62)) := by
  go_simp
theorem bd62 (w : World) (who n tok e i : Int) (th : Bool) (key tx : ByteArray) : (Instr.build 62 [(0, (.int .i64 who : Value)), (1, .int .i64 n), (2, .string key), (3, .int .i64 tok), (4, .agg #[.int .i64 e, .int .i64 i, .bool th, .string tx])].toArray).run Try.prog w = .ok (.agg #[.int .i64 who, .int .i64 n, .string key, .int .i64 tok, .int .i64 e, .int .i64 i, .bool th, .string tx]) w := by
  go_simp
section
variable {H : Type} {enc : TypeId × Value → H} {W : World}
theorem way_cells {cs : List Value} {sp : Nat → Bool} {held : Bool} (h : CKall enc Try.prog W 0 sp held [.i .i64, .i .i64, .i .i64, .s, .s] cs) : ∃ x : WY, cs = wCells x ∧ wOk x := by
  obtain _ | ⟨c0, _ | ⟨c1, _ | ⟨c2, _ | ⟨c3, _ | ⟨c4, _ | ⟨c5, r⟩⟩⟩⟩⟩⟩ := cs
  · exact h.elim
  · exact h.2.elim
  · exact h.2.2.elim
  · exact h.2.2.2.elim
  · exact h.2.2.2.2.elim
  · obtain ⟨⟨a, rfl, ha⟩, ⟨b, rfl, hb⟩, ⟨c, rfl, hc⟩, ⟨s, rfl, hs⟩, ⟨t, rfl, ht⟩, _⟩ := h
    exact ⟨⟨a, b, c, s, t⟩, rfl, ha, hb, hc, hs, ht⟩
  · exact h.2.2.2.2.2.elim
theorem ways_open {r : Reach} {b0 : Nat} {v : Value} {d : DataW H} {p : List MemPlace} (hv : Value.okWide Try.prog W r b0 45 v) (h : DataW.Trod enc Try.prog W 0 (fun _ => true) true 45 v d p) :
    ∃ a len cap z, v = .slice a len cap ∧ IsW W a len z := by
  obtain ⟨a, len, cap, rfl, hl, hm, hr⟩ := open_row Try.underlying45 info58f (by kernel_rfl) (by decide) hv h
  obtain ⟨z, hz⟩ := choose_row hr wCells (fun i cs hcs => let ⟨x, e, _⟩ := way_cells hcs; ⟨x, e⟩)
  refine ⟨a, len, cap, z, rfl, by omega, ?_, ?_⟩
  · rcases hz with h0 | ⟨b, off, _, _, hi⟩
    · intro i hi'; omega
    · intro i hi'
      obtain ⟨x, e, h1⟩ := way_cells (hi i hi').1
      simp only [wCells, List.cons.injEq, Value.int.injEq, Value.string.injEq, and_true, true_and] at e
      generalize z i = y at e
      obtain ⟨y1, y2, y3, y4, y5⟩ := y
      obtain ⟨x1, x2, x3, x4, x5⟩ := x
      simp only at e
      obtain ⟨rfl, rfl, rfl, rfl, rfl⟩ := e
      exact h1
  · rcases hz with h0 | ⟨b, off, ha, hb, hi⟩
    · exact Or.inl h0
    · exact Or.inr ⟨b, off, ha, hb, fun i hi' => (hi i hi').2⟩
end
end Go.Proofs.Ytieoejilppgebaa
