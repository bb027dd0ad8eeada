/- What Purge of package node comes to. -/
import Derived.Test.YtieoejilppgebaaNdI
namespace Go.Proofs.Ytieoejilppgebaa
open Go Go.RowKit Go.Maps
set_option maxRecDepth 100000


set_option maxHeartbeats 2000000 in
theorem purge_any (w : World) (b : NB) (M : List MK) (room kept : Int) (N : List TH) (last : Int) (L : LL) (fl : Int) (H : HL) (cold : Bool) (since : Int) (D : Nd w b ⟨M, room, kept, N, last, L, fl, H, cold, since⟩) :
    Calls Try.prog 15 #[.pointer (some ⟨b.nb, 0, none⟩)] w (VPost b ⟨M, room, kept, N, last, L, fl, H, cold, since⟩ ⟨[], room, 0, [], last, [], 0, [], false, since⟩ (.tuple #[]) w) := by
  have HD := Lib.hid D
  have hk0 : 0 ≤ kept := D.it.kept0
  have c0 := blk_cell D.blk 0
  have c1 := blk_cell D.blk 1
  have c2 := blk_cell D.blk 2
  have c3 := blk_cell D.blk 3
  have c4 := blk_cell D.blk 4
  have c5 := blk_cell D.blk 5
  have cl := blk_lt D.blk
  simp at c0 c1 c2 c3 c4 c5
  clear D
  go_enter Try.func15, Try.ntmps15
  go_wp2_with fail
  refine (flush_any _ b _ HD.out).mono ?_
  rintro _ w1 ⟨rfl, P1⟩
  have HP1 := Lib.hid (show NPost w w1 b ⟨M, room, kept, N, last, L, fl, H, cold, since⟩ ⟨M, room, kept, [], last, [], 0, [], cold, since⟩ from P1)
  clear c0 c1 c2 c3 c4 c5 cl
  have c0 := blk_cell HP1.out.D.blk 0
  have c1 := blk_cell HP1.out.D.blk 1
  have c2 := blk_cell HP1.out.D.blk 2
  have c3 := blk_cell HP1.out.D.blk 3
  have c4 := blk_cell HP1.out.D.blk 4
  have c5 := blk_cell HP1.out.D.blk 5
  have cl := blk_lt HP1.out.D.blk
  simp at c0 c1 c2 c3 c4 c5
  clear P1
  go_wp2_with fail
  refine (Mk.drop_any b.mt b.mm 32 M _ HP1.out.D.mks).mono ?_
  rintro _ w2 ⟨rfl, T2, k2⟩
  have P2 := Lib.hid (show NPost w w2 b ⟨M, room, kept, N, last, L, fl, H, cold, since⟩ ⟨[], room, kept, [], last, [], 0, [], cold, since⟩ from HP1.out.trans (HP1.out.D.setM T2 k2))
  clear c0 c1 c2 c3 c4 c5 cl
  clear T2 k2 HP1
  go_wp2_with fail
  refine wp_region_pl (fun x => x.cell? ⟨b.nb, 1, none⟩ = some (.pointer (some ⟨b.cb, 0, none⟩))) [] (.rd 0 (.rd 1 (.rd 2 (.rd 3 (.rd 4 (.rd 5 (.rd 6 (.rd 7 (.one 8 (.one 9 .done)))))))))) (by kernel_rfl) (by kernel_rfl) (by kernel_rfl) (by kernel_rfl) (by intro c b d v u h; cases d <;> exact h) ?_
  have P3 := Lib.hid (P2.out.keep0 (Keep.refl NoB w2).drew)
  clear P2
  generalize w2.drew = w3 at P3 ⊢
  have HS3 := Lib.hid (nd_cells P3.out.D).2.1
  have HT3 := Lib.hid (show It.Lru w3 b.cb b.cm room kept [] from P3.out.D.it)
  first
    | refine pl_get (i := 0) rfl rfl HS3.out rfl (fun u hu => by (try dsimp only at hu); go_simp; rfl) (by simp only [List.setIfInBounds_toArray, List.set_cons_succ, List.set_cons_zero]; rfl) ?_
    | refine pl_skip (i := 0) rfl rfl HS3.out rfl (by simp only [List.setIfInBounds_toArray, List.set_cons_succ, List.set_cons_zero]; rfl) ?_
  first
    | refine pl_get (i := 1) rfl rfl HS3.out rfl (fun u hu => by (try dsimp only at hu); go_simp; rfl) (by simp only [List.setIfInBounds_toArray, List.set_cons_succ, List.set_cons_zero]; rfl) ?_
    | refine pl_skip (i := 1) rfl rfl HS3.out rfl (by simp only [List.setIfInBounds_toArray, List.set_cons_succ, List.set_cons_zero]; rfl) ?_
  first
    | refine pl_get (i := 2) rfl rfl HS3.out rfl (fun u hu => by (try dsimp only at hu); go_simp; rfl) (by simp only [List.setIfInBounds_toArray, List.set_cons_succ, List.set_cons_zero]; rfl) ?_
    | refine pl_skip (i := 2) rfl rfl HS3.out rfl (by simp only [List.setIfInBounds_toArray, List.set_cons_succ, List.set_cons_zero]; rfl) ?_
  first
    | refine pl_get (i := 3) rfl rfl HS3.out rfl (fun u hu => by (try dsimp only at hu); go_simp; rfl) (by simp only [List.setIfInBounds_toArray, List.set_cons_succ, List.set_cons_zero]; rfl) ?_
    | refine pl_skip (i := 3) rfl rfl HS3.out rfl (by simp only [List.setIfInBounds_toArray, List.set_cons_succ, List.set_cons_zero]; rfl) ?_
  first
    | refine pl_get (i := 4) rfl rfl HS3.out rfl (fun u hu => by (try dsimp only at hu); go_simp; rfl) (by simp only [List.setIfInBounds_toArray, List.set_cons_succ, List.set_cons_zero]; rfl) ?_
    | refine pl_skip (i := 4) rfl rfl HS3.out rfl (by simp only [List.setIfInBounds_toArray, List.set_cons_succ, List.set_cons_zero]; rfl) ?_
  first
    | refine pl_get (i := 5) rfl rfl HS3.out rfl (fun u hu => by (try dsimp only at hu); go_simp; rfl) (by simp only [List.setIfInBounds_toArray, List.set_cons_succ, List.set_cons_zero]; rfl) ?_
    | refine pl_skip (i := 5) rfl rfl HS3.out rfl (by simp only [List.setIfInBounds_toArray, List.set_cons_succ, List.set_cons_zero]; rfl) ?_
  first
    | refine pl_get (i := 6) rfl rfl HS3.out rfl (fun u hu => by (try dsimp only at hu); go_simp; rfl) (by simp only [List.setIfInBounds_toArray, List.set_cons_succ, List.set_cons_zero]; rfl) ?_
    | refine pl_skip (i := 6) rfl rfl HS3.out rfl (by simp only [List.setIfInBounds_toArray, List.set_cons_succ, List.set_cons_zero]; rfl) ?_
  first
    | refine pl_get (i := 7) rfl rfl HS3.out rfl (fun u hu => by (try dsimp only at hu); go_simp; rfl) (by simp only [List.setIfInBounds_toArray, List.set_cons_succ, List.set_cons_zero]; rfl) ?_
    | refine pl_skip (i := 7) rfl rfl HS3.out rfl (by simp only [List.setIfInBounds_toArray, List.set_cons_succ, List.set_cons_zero]; rfl) ?_
  refine pl_one (i := 8) rfl ?_
  go_wp2_with ((go_at_call 42; refine (It.reserved_any b.cb b.cm room kept [] _ HT3.out).mono ?_; rintro _ w4 ⟨rfl, rfl⟩))
  refine pl_next (fun _ => HS3.out) ?_
  by_cases hpos : 0 < kept
  · refine pl_one (i := 9) rfl ?_
    go_wp2_with ((go_at_call 32; refine (It.release_any b.cb b.cm room kept [] kept kept 0 _ HT3.out hpos (Int.min_self kept) (Int.sub_self kept)).mono ?_; rintro _ w5 ⟨rfl, T5, k5⟩))
    have P5 := Lib.hid (show NPost w w5 b ⟨M, room, kept, N, last, L, fl, H, cold, since⟩ ⟨[], room, 0, [], last, [], 0, [], cold, since⟩ from P3.out.trans (P3.out.D.setI T5 k5 (fun x hx => by cases hx)))
    have HS5 := Lib.hid (nd_cells P5.out.D).2.1
    clear T5 k5 P3
    refine pl_next (fun _ => HS5.out) ?_
    refine pl_done ?_
    have f4 := blk_free P5.out.D.blk 4
    have c0 := blk_cell P5.out.D.blk 0
    have c1 := blk_cell P5.out.D.blk 1
    have c2 := blk_cell P5.out.D.blk 2
    have c3 := blk_cell P5.out.D.blk 3
    have c4 := blk_cell P5.out.D.blk 4
    have c5 := blk_cell P5.out.D.blk 5
    have cl := blk_lt P5.out.D.blk
    simp at c0 c1 c2 c3 c4 c5
    go_wp2_with fail
    have y := blk_setCell (i := 4) P5.out.D.blk (.bool false)
    have K := (Keep.refl (OneB b.nb) w5).setCell (p := ⟨b.nb, 4, none⟩) (Or.inr rfl) (.bool false)
    simp at y
    generalize World.setCell _ _ _ = W at y K ⊢
    have P6 := Lib.hid (show NPost w W b ⟨M, room, kept, N, last, L, fl, H, cold, since⟩ ⟨[], room, 0, [], last, [], 0, [], false, since⟩ from P5.out.trans (P5.out.D.setC y K))
    go_end0
    exact ⟨rfl, P6.out⟩
  · obtain rfl : kept = 0 := by omega
    refine pl_one (i := 9) rfl ?_
    go_wp2_with ((go_at_call 32; refine (It.release_no b.cb b.cm room 0 [] 0 _ HT3.out (Int.le_refl 0)).mono ?_; rintro _ w5 ⟨rfl, rfl⟩))
    refine pl_next (fun _ => HS3.out) ?_
    refine pl_done ?_
    have f4 := blk_free P3.out.D.blk 4
    have c0 := blk_cell P3.out.D.blk 0
    have c1 := blk_cell P3.out.D.blk 1
    have c2 := blk_cell P3.out.D.blk 2
    have c3 := blk_cell P3.out.D.blk 3
    have c4 := blk_cell P3.out.D.blk 4
    have c5 := blk_cell P3.out.D.blk 5
    have cl := blk_lt P3.out.D.blk
    simp at c0 c1 c2 c3 c4 c5
    go_wp2_with fail
    have y := blk_setCell (i := 4) P3.out.D.blk (.bool false)
    have K := (Keep.refl (OneB b.nb) w3).setCell (p := ⟨b.nb, 4, none⟩) (Or.inr rfl) (.bool false)
    simp at y
    generalize World.setCell _ _ _ = W at y K ⊢
    have P6 := Lib.hid (show NPost w W b ⟨M, room, 0, N, last, L, fl, H, cold, since⟩ ⟨[], room, 0, [], last, [], 0, [], false, since⟩ from P3.out.trans (P3.out.D.setC y K))
    go_end0
    exact ⟨rfl, P6.out⟩
end Go.Proofs.Ytieoejilppgebaa
