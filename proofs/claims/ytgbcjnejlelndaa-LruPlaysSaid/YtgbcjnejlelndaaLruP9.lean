/- The reference's cache: Get with use. -/
import Derived.Test.YtgbcjnejlelndaaLruP8
namespace Go.Proofs.Ytgbcjnejlelndaa
open Go Go.RowKit Go.Maps

set_option maxRecDepth 100000 in
set_option maxHeartbeats 8000000 in
theorem rget_use (rb B : Nat) (a : Option Addr) (cap : Nat) (room kept : Int) (N : List T3) (s : ByteArray) (i : Nat) (z n : Int) (w : World) (T : RC w B rb a cap room kept N) (hB : B ≤ w.heap.size) (hN : N.length ≤ 100000) (hx : N[i]? = some (s, z, n)) (hl : ∀ (i' : Nat) (y : T3), i' < i → N[i']? = some y → y.1 ≠ s) (N' : List T3) (hN' : [((s, z, n) : T3)] ++ (N.take i ++ N.drop (i + 1)) = N') :
    Calls Try.prog 22 #[.pointer (some ⟨rb, 0, none⟩), .string s, .bool true] w (CPost rb B room kept (.tuple #[.int .i64 n, .bool true]) N' w) := by
  have hi := (List.getElem?_eq_some_iff.1 hx).1
  have HF := Lib.hid (FindV.hit (N := N) (s := s) i (s, z, n) hx rfl hl)
  have HD := Lib.hid (DropV.hit (N := N) (s := s) i (s, z, n) hx rfl hl)
  obtain ⟨M', hM'⟩ : ∃ q, N.take i ++ N.drop (i + 1) = q := ⟨_, rfl⟩
  have hM'l : M'.length ≤ 100000 := by rw [← hM', List.length_append, List.length_take, List.length_drop]; omega
  rw [hM'] at hN' HD
  have HN' := Lib.hid hN'
  have HT := Lib.hid T
  have hrb := blk_lt T.blk
  obtain ⟨g, cg, hvv, hg1, hg2, hcx⟩ := T.own.cells tCells_len hx
  cases hvv
  have m0 := hcx 0 _ rfl
  have m1 := hcx 1 _ rfl
  have m2 := hcx 2 _ rfl
  simp only [Nat.add_zero] at m0
  have c0 := blk_cell T.blk 0
  simp at c0 m0 m1 m2
  clear T hcx hx hl hM' hN'
  go_enter Try.func22, Try.ntmps22
  go_wp2_with fail
  refine (rfind_any rb B _ cap room kept N s _ HT.out hN (i : Int) HF.out).mono ?_
  rintro _ w1 ⟨rfl, rfl⟩
  have k0 : Keep NoB w1 (w1.alloc (.cells #[.string s, .int .i64 z, .int .i64 n] 52)) := (Keep.refl NoB w1).alloc _
  have b0 := blk_new w1 (.cells #[.string s, .int .i64 z, .int .i64 n] 52)
  go_wp2_with fail
  refine (rdrop_any rb B _ cap room kept N s _ (HT.out.keep0 k0) (Nat.le_trans hB k0.size) hN M' true HD.out).mono ?_
  rintro _ w4 ⟨rfl, ⟨ra4, rc4, R4⟩, k4⟩
  have b4 := blk_keep b0 k4 (fun e => by have e' : w1.heap.size = rb := e; omega)
  have HK4 := Lib.hid (k0.none.trans k4)
  obtain ⟨xb, hxb⟩ : ∃ q, w1.heap.size = q := ⟨_, rfl⟩
  have hxr : xb ≠ rb := by omega
  rw [hxb] at b4 ⊢
  have d4 := blk_cell R4.blk 0
  have y0 := blk_cell b4 0
  have y1 := blk_cell b4 1
  have y2 := blk_cell b4 2
  simp at d4 y0 y1 y2
  have HR4 := Lib.hid R4
  have HS4 := Lib.hid (And.intro d4 (And.intro y0 (And.intro y1 y2)))
  have Hb4 := Lib.hid b4
  clear R4 k4 b4 b0 k0 d4 y0 y1 y2 m0 m1 m2 c0
  go_wp2_with fail
  refine wp_region_pl (fun u => u.cell? ⟨rb, 0, none⟩ = some (.slice ra4 M'.length rc4) ∧ u.cell? ⟨xb, 0, none⟩ = some (.string s) ∧ u.cell? ⟨xb, 1, none⟩ = some (.int .i64 z) ∧ u.cell? ⟨xb, 2, none⟩ = some (.int .i64 n)) [10] (.rd 0 (.rd 1 (.rd 3 (.rd 4 (.rd 5 (.rd 6 (.one 2 (.one 7 (.one 8 (.one 9 (.one 10 .done))))))))))) (by kernel_rfl) (by kernel_rfl) (by kernel_rfl) (by kernel_rfl) (by intro c b d v u h; cases d <;> exact h) ?_
  have kd : Keep NoB w4 w4.drew := (Keep.refl NoB w4).drew
  have HS5 := Lib.hid (ks4 HS4.out kd)
  have HR5 := Lib.hid (HR4.out.keep0 kd)
  have HK5 := Lib.hid (HK4.out.trans kd.none)
  clear kd HS4 HR4 HK4
  generalize w4.drew = W5 at HS5 HR5 HK5 ⊢
  first
    | refine pl_get (i := 0) rfl rfl HS5.out rfl (fun u hu => by (try dsimp only at hu); go_simp; rfl) (by simp only [List.setIfInBounds_toArray, List.set_cons_succ, List.set_cons_zero]; rfl) ?_
    | refine pl_skip (i := 0) rfl rfl HS5.out rfl (by simp only [List.setIfInBounds_toArray, List.set_cons_succ, List.set_cons_zero]; rfl) ?_
  first
    | refine pl_get (i := 1) rfl rfl HS5.out rfl (fun u hu => by (try dsimp only at hu); go_simp; rfl) (by simp only [List.setIfInBounds_toArray, List.set_cons_succ, List.set_cons_zero]; rfl) ?_
    | refine pl_skip (i := 1) rfl rfl HS5.out rfl (by simp only [List.setIfInBounds_toArray, List.set_cons_succ, List.set_cons_zero]; rfl) ?_
  first
    | refine pl_get (i := 3) rfl rfl HS5.out rfl (fun u hu => by (try dsimp only at hu); go_simp; rfl) (by simp only [List.setIfInBounds_toArray, List.set_cons_succ, List.set_cons_zero]; rfl) ?_
    | refine pl_skip (i := 3) rfl rfl HS5.out rfl (by simp only [List.setIfInBounds_toArray, List.set_cons_succ, List.set_cons_zero]; rfl) ?_
  first
    | refine pl_get (i := 4) rfl rfl HS5.out rfl (fun u hu => by (try dsimp only at hu); go_simp; rfl) (by simp only [List.setIfInBounds_toArray, List.set_cons_succ, List.set_cons_zero]; rfl) ?_
    | refine pl_skip (i := 4) rfl rfl HS5.out rfl (by simp only [List.setIfInBounds_toArray, List.set_cons_succ, List.set_cons_zero]; rfl) ?_
  first
    | refine pl_get (i := 5) rfl rfl HS5.out rfl (fun u hu => by (try dsimp only at hu); go_simp; rfl) (by simp only [List.setIfInBounds_toArray, List.set_cons_succ, List.set_cons_zero]; rfl) ?_
    | refine pl_skip (i := 5) rfl rfl HS5.out rfl (by simp only [List.setIfInBounds_toArray, List.set_cons_succ, List.set_cons_zero]; rfl) ?_
  first
    | refine pl_get (i := 6) rfl rfl HS5.out rfl (fun u hu => by (try dsimp only at hu); go_simp; rfl) (by simp only [List.setIfInBounds_toArray, List.set_cons_succ, List.set_cons_zero]; rfl) ?_
    | refine pl_skip (i := 6) rfl rfl HS5.out rfl (by simp only [List.setIfInBounds_toArray, List.set_cons_succ, List.set_cons_zero]; rfl) ?_
  refine pl_one (i := 2) rfl ?_
  go_wp2_with (fail)
  have kE : Keep NoB W5 (W5.alloc (.cells #[.string s, .int .i64 z, .int .i64 n] 52)) := (Keep.refl NoB W5).alloc _
  have OE := Own.one W5 (Nat.le_refl _) ((s, z, n) : T3)
  have HS6 := Lib.hid (ks4 HS5.out kE)
  have hsub : Sub W5 tCells (.slice ra4 M'.length rc4) M' := by have h := Own.take (i := M'.length) HR5.out.own tCells_len (Nat.le_refl _) rc4; rw [List.take_length] at h; exact h
  refine pl_next (fun _ => HS6.out) ?_
  refine pl_one (i := 7) rfl ?_
  refine wpList_append_sub rfl (.tmp 28) (.tmp 32) 47 rfl Try.underlying47 info52' (by kernel_rfl) (by decide) (by decide) rfl OE tCells_len tCells_one rfl (hsub.keep kE) (by simp; omega) (by simp) HN'.out ?_
  intro a7 c7 w7 O7 k7
  have K7 : Keep NoB W5 w7 := OE.knob kE k7
  have b7 := blk_keep HR5.out.blk K7 (fun h => h)
  have HS7 := Lib.hid (ks4 HS5.out K7)
  have HK7 := Lib.hid (HK5.out.trans K7.none)
  have sB : B ≤ W5.heap.size := by have := HK5.out.size; omega
  have HO7 := Lib.hid (O7.mono sB)
  have e0 := blk_cell b7 0
  have el := blk_lt b7
  have ef := blk_free b7 0
  have Hb7 := Lib.hid b7
  simp at e0
  refine pl_next (fun _ => HS7.out) ?_
  clear O7 k7 K7 b7 OE kE hsub
  refine pl_one (i := 8) rfl ?_
  go_wp2_with (fail)
  refine pl_next (fun _ => HS7.out) ?_
  refine pl_one (i := 9) rfl ?_
  go_wp2_with (fail)
  refine pl_next (fun _ => HS7.out) ?_
  refine pl_one (i := 10) rfl ?_
  go_wp2_with (fail)
  refine pl_next (fun h => by cases h) ?_
  refine pl_done ?_
  have b9 := blk_setCell (i := 0) Hb7.out (.slice a7 N'.length c7)
  have k9 : Keep (OneB rb) w7 (w7.setCell ⟨rb, 0, none⟩ (.slice a7 N'.length c7)) := (Keep.refl (OneB rb) w7).setCell (p := ⟨rb, 0, none⟩) (Or.inr rfl) _
  simp at b9
  generalize w7.setCell ⟨rb, 0, none⟩ (.slice a7 N'.length c7) = w9 at b9 k9 ⊢
  have v2 := k9.some HS7.out.2.2.2 (fun e => hxr e)
  go_wp2
  refine bodyPost_ret (v := .tuple #[.int .i64 n, .bool true]) (by simp [results, Try.results22, go_sem]) rfl ?_
  exact ⟨rfl, ⟨a7, c7, ⟨b9, HO7.out.keep k9 (fun q hq e => HO7.out.ne Hb7.out (by decide) q hq e)⟩⟩, HK7.out.trans k9⟩
end Go.Proofs.Ytgbcjnejlelndaa
