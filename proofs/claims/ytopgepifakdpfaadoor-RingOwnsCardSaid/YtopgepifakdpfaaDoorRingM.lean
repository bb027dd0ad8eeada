/- The document's example of ring. -/
import Derived.Test.YtopgepifakdpfaaDoorRingN
namespace Go.Proofs.YtopgepifakdpfaaDoor
open Go Go.RowKit Go.Maps Go.Sort
set_option maxRecDepth 100000

abbrev ka : BA := ⟨#[97]⟩
abbrev kb : BA := ⟨#[98]⟩
abbrev kk : BA := ⟨#[107]⟩
theorem fe_bab : (fe [] [kb, ka, kb]).length = 2 := by decide
theorem fe_a : fe [] [ka] = [ka] := by decide
theorem rds_blk {w : World} {b : Nat} {c : Array Value} {t : TypeId} {N : List BA} (h : w.heap[b]? = some (.cells c t)) (hc : c.toList = N.map Value.string) : RdS w (some ⟨b, 0, none⟩) N := by
  refine Or.inr ⟨b, 0, rfl, blk_lt h, fun i x hx => ?_⟩
  rw [Nat.zero_add, blk_cell h, ← Array.getElem?_toList, hc, List.getElem?_map, hx]
  rfl
set_option maxHeartbeats 4000000 in
theorem awake_any (w : World) : Calls Tryd.prog 8 #[] w fun e w' => e = .returned (.bool true) ∧ Keep NoB w w' := by
  have k0 := (Keep.refl NoB w).alloc (.cells #[.string kb, .string ka, .string kb] 9)
  have b0 := blk_new w (.cells #[.string kb, .string ka, .string kb] 9)
  go_enter Tryd.func8, Tryd.ntmps8
  go_wp2_with fail
  refine (new_any _ (some ⟨w.heap.size, 0, none⟩) 3 [kb, ka, kb] (rds_blk b0 rfl) (by decide)).mono ?_
  rintro _ w1 ⟨rb, L, rfl, hL, hR, k1⟩
  have HR := Lib.hid hR
  have HL := Lib.hid hL
  have Hk1 := Lib.hid (k0.trans k1)
  have hLl : L.length = 2 := by rw [hL.1.length_eq, fe_bab]
  have HLl := Lib.hid hLl
  clear k0 b0 hL hR k1 hLl
  have k2 := (Keep.refl NoB w1).alloc (.cells #[.string ka] 9)
  have b2 := blk_new w1 (.cells #[.string ka] 9)
  go_wp2_with fail
  refine (new_any _ (some ⟨w1.heap.size, 0, none⟩) 1 [ka] (rds_blk b2 rfl) (by decide)).mono ?_
  rintro _ w3 ⟨rb2, L2, rfl, hL2, hR2, k3⟩
  have hL2e : L2 = [ka] := List.perm_singleton.1 (by have := hL2.1; rw [fe_a] at this; exact this)
  subst hL2e
  have HR3 := Lib.hid (HR.out.keep0 (k2.trans k3))
  have HR2 := Lib.hid hR2
  have Hk3 := Lib.hid (Hk1.out.trans (k2.trans k3))
  have hs3 := k3.size
  have Hk13 := Lib.hid (k2.trans k3)
  clear k2 b2 hL2 hR2
  go_wp2_with fail
  refine (owner_any w3 _ rb2 [ka] hs3 HR2.out (by decide) (by simp [RiseB]) (by intro x hx; rw [List.mem_singleton] at hx; subst hx; decide) kk (by decide)).mono ?_
  rintro _ w4 ⟨O, hO, rfl, R4, k4⟩
  have hOe : O = [ka] := List.perm_singleton.1 hO.1
  subst hOe
  have hfr := HR2.out.1
  have K14 : Keep NoB w1 w4 := Hk13.out.trans' k4 (fun i hi e => by have e' : i = rb2 := e; simp at hfr; omega)
  have HR4 := Lib.hid (HR.out.keep0 K14)
  have HK4 := Lib.hid (Hk1.out.trans K14)
  have hl2 : ((L.length : Int) == 2) = true := by rw [HLl.out]; rfl
  clear hO R4 k4 hfr K14 HR3 HR2
  go_wp2_with fail
  refine (nodes_any w4 _ rb L HR4.out (by rw [HLl.out]; decide)).mono ?_
  rintro _ w5 ⟨a, c, rfl, O5, k5⟩
  have HK5 := Lib.hid (HK4.out.trans k5)
  clear O5 k5
  go_wp2_with fail
  go_ret
  exact ⟨rfl, HK5.out⟩
end Go.Proofs.YtopgepifakdpfaaDoor
