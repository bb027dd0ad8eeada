/- What a ring that is none tells. -/
import Derived.Test.YtopgepifakdpfaaDoorRingSame
namespace Go.Proofs.YtopgepifakdpfaaDoor
open Go Go.RowKit Go.Maps Go.Sort
set_option maxRecDepth 100000

theorem owners_nil (w : World) (key : BA) (n : Int) : Calls Tryd.prog 12 #[.pointer none, .string key, .int .i64 n] w fun e w' => e = .returned (.slice none 0 0) ∧ Keep NoB w w' := by
  go_enter Tryd.func12, Tryd.ntmps12
  go_wp2_with fail
  go_ret
  exact ⟨rfl, (Keep.refl NoB w).alloc (.cells #[.pointer none] 26)⟩
theorem owner_nil (w : World) (key : BA) : Calls Tryd.prog 14 #[.pointer none, .string key] w fun e w' => e = .returned (.tuple #[.string ⟨#[]⟩, .bool false]) ∧ Keep NoB w w' := by
  go_enter Tryd.func14, Tryd.ntmps14
  go_wp2_with fail
  refine (owners_nil w key 1).mono ?_
  rintro _ w1 ⟨rfl, k1⟩
  have HK := Lib.hid k1
  clear k1
  go_wp2_with fail
  refine bodyPost_ret (v := .tuple #[.string ⟨#[]⟩, .bool false]) (by simp [results, Tryd.results14]) rfl ?_
  exact ⟨rfl, HK.out⟩
theorem nodes_nil (w : World) : Calls Tryd.prog 13 #[.pointer none] w fun e w' => e = .returned (.slice none 0 0) ∧ w = w' := by
  go_enter Tryd.func13, Tryd.ntmps13
  go_wp2_with fail
  go_ret
  exact ⟨rfl, rfl⟩
theorem without_nil (w : World) (x : BA) : Calls Tryd.prog 16 #[.pointer none, .string x] w (NewP [] w) := by
  go_enter Tryd.func16, Tryd.ntmps16
  go_wp2_with fail
  refine (nodes_nil w).mono ?_
  rintro _ w1 ⟨rfl, rfl⟩
  go_wp2_with fail
  go_loopw [5, 11] (fun ov iv wr => iv = .int .i64 0 ∧ ov = .slice none 0 0 ∧ wr = w) (fun _ _ _ => 0)
  case atStart => exact ⟨rfl, rfl, rfl⟩
  case round =>
    obtain ⟨rfl, rfl, rfl⟩ := hrel
    go_wp2_with fail
    refine (new_any wr none 0 [] (Or.inl rfl) (by simp)).mono ?_
    rintro _ w5 ⟨rb', L', rfl, hNd, hRg, k5⟩
    have HX := Lib.hid (show Nds [] L' ∧ Rg w5 wr.heap.size rb' L' ∧ Keep NoB wr w5 from ⟨hNd, hRg, k5⟩)
    clear hNd hRg k5
    go_wp2_with fail
    go_ret
    exact ⟨rb', L', rfl, HX.out⟩
theorem with_nil (w : World) (x : BA) : Calls Tryd.prog 17 #[.pointer none, .string x] w (NewP [x] w) := by
  go_enter Tryd.func17, Tryd.ntmps17
  go_wp2_with fail
  refine (nodes_nil w).mono ?_
  rintro _ w1 ⟨rfl, rfl⟩
  go_wp2_with (at_builtin; refine wpList_append_one (B := w.heap.size) rfl (.tmp 6) (.tmp 8) 22 rfl Tryd.underlying22 info9' (by kernel_rfl) (by decide) (by decide) rfl ((Own.nil w w.heap.size 9 1 cS).alloc (.cells #[.string x] 9)) cS_len x rfl (c := #[.string x]) (t' := 9) (f := (0, 0)) (blk_new w _) rfl (cS_one _) (by decide) (by simp) (List.nil_append _) ?_; intro a4 c4 w4 O4 k4; have HO4 := Lib.hid O4; have Hk4 := Lib.hid (((Own.nil w w.heap.size 9 1 cS).alloc (.cells #[.string x] 9)).knob ((Keep.refl NoB w).alloc (.cells #[.string x] 9)) k4); clear O4 k4)
  refine (new_any w4 a4 c4 [x] (rds_own HO4.out) (by simp)).mono ?_
  rintro _ w5 ⟨rb', L', rfl, hNd, hRg, k5⟩
  have HX := Lib.hid (show Nds [x] L' ∧ Rg w5 w.heap.size rb' L' ∧ Keep NoB w w5 from ⟨hNd, hRg.mono Hk4.out.size, Hk4.out.trans k5⟩)
  clear hNd hRg k5
  go_wp2_with fail
  go_ret
  exact ⟨rb', L', rfl, HX.out⟩
end Go.Proofs.YtopgepifakdpfaaDoor
