/- The arguments of the statements of chapter 27, opened; the listed table. -/
import Derived.Test.YtijllpjddbonjaaDoorScriptA
import Derived.Test.YtijllpjddbonjaaDoorLibRead
import Derived.Lib.LaidTab
import Derived.LaidMore
namespace Go.Proofs.YtijllpjddbonjaaDoor
open Go Go.RowKit Go.Maps Go.ChangeShapes Go.WideShapes

theorem htab_of_laid {W : World} (h : laidMetH Tryd.prog Rows.scriptReadsRow.laid W) : HTab W := by
  rw [MakeChecks.laidMetH_plain _ _ _ (by kernel_rfl)] at h
  obtain ⟨_, ⟨_, _, _, _, _, _, _, _, _, _, ⟨_, _, _, _, _, _, _, _, _, _, ⟨g, t, cs, fuel, p, q, hg, ht, hv, hd, _, _⟩, _⟩, _⟩, _, _⟩ := h
  obtain rfl := Option.some.inj ((show Tryd.prog.globalNamed "internal/strconv.uint64pow10" = some 0 by kernel_rfl).symm.trans hg)
  obtain rfl := Option.some.inj ((show (Tryd.prog.globals[0]?).map (·.type) = some 49 by kernel_rfl).symm.trans ht)
  have e := Lib.cells_of_tab (zs := Lib.pow10Tab) (k := .u64) Tryd.underlying49 Tryd.underlying42 (by kernel_rfl) (by kernel_rfl) hd
  unfold HTab Lib.TabIs
  rw [hv, ← e]

theorem flat5 : flat Tryd.prog 5 5 = some [.i .u8] := by kernel_rfl

section
variable {H : Type} {enc : TypeId × Value → H} {W : World}
theorem u8_cells {cs : List Value} {sp : Nat → Bool} {held : Bool} (h : CKall enc Tryd.prog W 0 sp held [.i .u8] cs) : ∃ x : UInt8, cs = [.int .u8 x.toNat] := by
  obtain _ | ⟨c0, _ | ⟨c1, r⟩⟩ := cs
  · exact h.elim
  · obtain ⟨⟨b, rfl, hb⟩, _⟩ := h
    have h1 := bounds_u8 hb
    refine ⟨UInt8.ofNat b.toNat, ?_⟩
    have e1 : ((UInt8.ofNat b.toNat).toNat : Int) = b := by simp; omega
    rw [e1]
  · exact h.2.elim

theorem bytes_open {r : Reach} {b0 : Nat} {v : Value} {d : DataW H} {p : List MemPlace} (hv : Value.okWide Tryd.prog W r b0 22 v) (h : DataW.Trod enc Tryd.prog W 0 (fun _ => true) true 22 v d p) :
    ∃ a len cap z, v = .slice a len cap ∧ len ≤ cap ∧ cap ≤ maxLen ∧ BA W a len z := by
  obtain ⟨a, len, cap, rfl, hl, hm, hr⟩ := open_row Tryd.underlying22 flat5 (by kernel_rfl) (by decide) hv h
  have : Inhabited UInt8 := ⟨0⟩
  obtain ⟨z, hz⟩ := choose_row hr (fun b : UInt8 => [Value.int .u8 b.toNat]) (fun i cs hcs => u8_cells hcs)
  refine ⟨a, len, cap, z, rfl, hl, hm, ?_⟩
  rcases hz with h0 | ⟨b, off, ha, hb, hi⟩
  · exact Or.inl h0
  · refine Or.inr ⟨b, off, ha, hb, fun i hi' => ?_⟩
    have := (hi i hi').2 0 (by decide)
    simpa using this
end
end Go.Proofs.YtijllpjddbonjaaDoor
