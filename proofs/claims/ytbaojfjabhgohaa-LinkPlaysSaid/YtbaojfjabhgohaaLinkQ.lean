/- The reference's Send and Double. -/
import Derived.Test.YtbaojfjabhgohaaLinkP
namespace Go.Proofs.Ytbaojfjabhgohaa
open Go Go.RowKit Go.Maps





set_option maxHeartbeats 4000000 in
theorem rsend_no (rb B : Nat) (a : Option Addr) (cap : Nat) (room sent : Int) (N : List RP) (x : RP) (w : World) (T : RN w B rb a cap room sent N) (hr : room ≤ N.length) :
    Calls Try.prog 18 #[.pointer (some ⟨rb, 0, none⟩), .agg (pCells x).toArray] w fun e w' => e = .returned (.bool false) ∧ Keep NoB w w' := by
  obtain ⟨p0, p1, p2, p3⟩ := x
  have HT := Lib.hid T
  have hd : decide (room ≤ (N.length : Int)) = true := decide_eq_true hr
  clear T hr
  simp only [pCells]
  go_enter Try.func18, Try.ntmps18
  have k0 : Keep NoB w (w.alloc (.cells #[.int .i64 p0, .int .i64 p1, .string p2, .bool p3] 50)) := (Keep.refl NoB w).alloc _
  have T0 := HT.out.keep0 k0
  have c0 := blk_cell T0.blk 0
  have c1 := blk_cell T0.blk 1
  have hlt := blk_lt T0.blk
  simp at c0 c1
  clear T0
  go_wp2_with fail
  go_quiet (fail)
  go_wp2
  go_ret
  exact ⟨rfl, k0.drewN _⟩

set_option maxHeartbeats 8000000 in
theorem rsend_yes (rb B : Nat) (a : Option Addr) (cap : Nat) (room sent : Int) (N : List RP) (x : RP) (w : World) (T : RN w B rb a cap room sent N) (hB : B ≤ w.heap.size) (hN : N.length ≤ 1000000) (hr : ¬ room ≤ N.length) (hs : 0 ≤ sent) (hs2 : sent < 9223372036854775807) (N' : List RP) (hN' : N ++ [x] = N') :
    Calls Try.prog 18 #[.pointer (some ⟨rb, 0, none⟩), .agg (pCells x).toArray] w (RPost rb B room (sent + 1) (.bool true) N' w) := by
  obtain ⟨p0, p1, p2, p3⟩ := x
  have HT := Lib.hid T
  have HN' := Lib.hid hN'
  have hd : decide (room ≤ (N.length : Int)) = false := decide_eq_false hr
  have hws : IntKind.i64.wrap (sent + 1) = sent + 1 := by rw [IntKind.wrap_i64]; omega
  clear T hr hN'
  simp only [pCells]
  go_enter Try.func18, Try.ntmps18
  have k0 : Keep NoB w (w.alloc (.cells #[.int .i64 p0, .int .i64 p1, .string p2, .bool p3] 50)) := (Keep.refl NoB w).alloc _
  have b0 := blk_new w (.cells #[.int .i64 p0, .int .i64 p1, .string p2, .bool p3] 50)
  have T0 := HT.out.keep0 k0
  have c0 := blk_cell T0.blk 0
  have c1 := blk_cell T0.blk 1
  have hlt := blk_lt T0.blk
  simp at c0 c1
  have HT0 := Lib.hid T0
  have Hk0 := Lib.hid k0
  have Hb0 := Lib.hid b0
  clear T0 k0 b0
  go_wp2_with fail
  go_quiet (fail)
  go_wp2_with fail
  have kz : Keep NoB (w.alloc (.cells #[.int .i64 p0, .int .i64 p1, .string p2, .bool p3] 50)) _ := (Keep.refl NoB _).drewN nq
  have TV := HT0.out.keep0 kz
  have kV := Hk0.out.trans kz
  have bV := blk_keep Hb0.out kz (fun h => h)
  generalize World.drewN _ nq = V at kz TV kV bV ⊢
  generalize w.heap.size = xb at bV ⊢
  have x0 := blk_cell bV 0
  have x1 := blk_cell bV 1
  have x2 := blk_cell bV 2
  have x3 := blk_cell bV 3
  have d0 := blk_cell TV.blk 0
  simp at x0 x1 x2 x3 d0
  have HTV := Lib.hid TV
  have HKV := Lib.hid kV
  clear kz TV kV bV c0 c1 hlt
  refine wp_region_pl (fun u => u.cell? ⟨rb, 0, none⟩ = some (.slice a N.length cap) ∧ u.cell? ⟨xb, 0, none⟩ = some (.int .i64 p0) ∧ u.cell? ⟨xb, 1, none⟩ = some (.int .i64 p1) ∧ u.cell? ⟨xb, 2, none⟩ = some (.string p2) ∧ u.cell? ⟨xb, 3, none⟩ = some (.bool p3)) [12] (.rd 0 (.rd 2 (.rd 3 (.rd 4 (.rd 5 (.rd 7 (.fork 1 (.fork 6 (.one 8 (.one 9 (.one 10 (.one 11 (.one 12 .done))))) 8 (.one 6 (.one 9 (.one 10 (.one 11 (.one 12 .done)))))) 8 (.one 1 (.one 6 (.one 9 (.one 10 (.one 11 (.one 12 .done))))))))))))) (by kernel_rfl) (by kernel_rfl) (by kernel_rfl) (by kernel_rfl) (by intro c b d v u h; cases d <;> exact h) ?_
  have kd0 : Keep NoB V V.drew := (Keep.refl NoB V).drew
  have HKW := Lib.hid (HKV.out.trans kd0)
  have HTW := Lib.hid (HTV.out.keep0 kd0)
  have HS0 := Lib.hid (ks5 ⟨d0, x0, x1, x2, x3⟩ kd0)
  generalize V.drew = W0 at kd0 HKW HTW HS0 ⊢
  have Hblk := Lib.hid HTW.out.blk
  have Hprt := Lib.hid (show Prt W0 pCells (.slice a N.length cap) N from by have h := Own.take (i := N.length) HTW.out.own pCells_len (Nat.le_refl _) cap; rw [List.take_length] at h; exact h)
  have hBW : B ≤ W0.heap.size := by have := HKW.out.size; omega
  clear x0 x1 x2 x3 d0 kd0
  first
    | refine pl_get (i := 0) rfl rfl HS0.out rfl (fun u hu => by (try dsimp only at hu); go_simp; rfl) (by simp only [List.setIfInBounds_toArray, List.set_cons_succ, List.set_cons_zero]; rfl) ?_
    | refine pl_skip (i := 0) rfl rfl HS0.out rfl (by simp only [List.setIfInBounds_toArray, List.set_cons_succ, List.set_cons_zero]; rfl) ?_
  first
    | refine pl_get (i := 2) rfl rfl HS0.out rfl (fun u hu => by (try dsimp only at hu); go_simp; rfl) (by simp only [List.setIfInBounds_toArray, List.set_cons_succ, List.set_cons_zero]; rfl) ?_
    | refine pl_skip (i := 2) rfl rfl HS0.out rfl (by simp only [List.setIfInBounds_toArray, List.set_cons_succ, List.set_cons_zero]; rfl) ?_
  first
    | refine pl_get (i := 3) rfl rfl HS0.out rfl (fun u hu => by (try dsimp only at hu); go_simp; rfl) (by simp only [List.setIfInBounds_toArray, List.set_cons_succ, List.set_cons_zero]; rfl) ?_
    | refine pl_skip (i := 3) rfl rfl HS0.out rfl (by simp only [List.setIfInBounds_toArray, List.set_cons_succ, List.set_cons_zero]; rfl) ?_
  first
    | refine pl_get (i := 4) rfl rfl HS0.out rfl (fun u hu => by (try dsimp only at hu); go_simp; rfl) (by simp only [List.setIfInBounds_toArray, List.set_cons_succ, List.set_cons_zero]; rfl) ?_
    | refine pl_skip (i := 4) rfl rfl HS0.out rfl (by simp only [List.setIfInBounds_toArray, List.set_cons_succ, List.set_cons_zero]; rfl) ?_
  first
    | refine pl_get (i := 5) rfl rfl HS0.out rfl (fun u hu => by (try dsimp only at hu); go_simp; rfl) (by simp only [List.setIfInBounds_toArray, List.set_cons_succ, List.set_cons_zero]; rfl) ?_
    | refine pl_skip (i := 5) rfl rfl HS0.out rfl (by simp only [List.setIfInBounds_toArray, List.set_cons_succ, List.set_cons_zero]; rfl) ?_
  first
    | refine pl_get (i := 7) rfl rfl HS0.out rfl (fun u hu => by (try dsimp only at hu); go_simp; rfl) (by simp only [List.setIfInBounds_toArray, List.set_cons_succ, List.set_cons_zero]; rfl) ?_
    | refine pl_skip (i := 7) rfl rfl HS0.out rfl (by simp only [List.setIfInBounds_toArray, List.set_cons_succ, List.set_cons_zero]; rfl) ?_
  refine pl_fork (i := 1) (j := 8) rfl rfl ?_ ?_
  · go_wp2_with fail
    have kE : Keep NoB W0 (W0.alloc (.cells #[] 50)) := (Keep.refl NoB W0).alloc _
    have OE := Own.empty W0 (Nat.le_refl _) 50 4 pCells
    have sE : (W0.alloc (.cells #[] 50)).heap.size = W0.heap.size + 1 := by simp
    generalize W0.alloc (.cells #[] 50) = wE at kE OE sE ⊢
    have HSE := Lib.hid (ks5 HS0.out kE)
    refine pl_next (fun _ => HSE.out) ?_
    refine pl_fork (i := 6) (j := 8) rfl rfl ?_ ?_
    · refine wpList_append_prt (B := W0.heap.size) rfl (.tmp 16) (.tmp 20) 45 rfl Try.underlying45 info50' (by kernel_rfl) (by decide) (by decide) rfl OE pCells_len pCells_one rfl (Hprt.out.keep kE) (by simp; omega) (by omega) (List.nil_append _) ?_
      intro a6 c6 w6 O6 k6
      (try simp only [Act.put, List.getElem_toArray, List.getElem_cons_succ, List.getElem_cons_zero, List.setIfInBounds_toArray, List.set_cons_succ, List.set_cons_zero])
      have K6 : Keep NoB W0 w6 := OE.knob kE k6
      have HS6 := Lib.hid (ks5 HS0.out K6)
      refine pl_next (fun _ => HS6.out) ?_
      clear k6
      refine pl_one (i := 8) rfl ?_
      go_wp2_with (fail)
      have HS8 := Lib.hid (ks5 HS6.out ((Keep.refl NoB w6).alloc (.cells #[.int .i64 p0, .int .i64 p1, .string p2, .bool p3] 50)))
      refine pl_next (fun _ => HS8.out) ?_
      refine pl_one (i := 9) rfl ?_
      refine wpList_append_one (B := W0.heap.size) rfl (.tmp 21) (.tmp 23) 45 rfl Try.underlying45 info50' (by kernel_rfl) (by decide) (by decide) rfl (O6.alloc _) pCells_len ⟨p0, p1, p2, p3⟩ rfl (c := #[.int .i64 p0, .int .i64 p1, .string p2, .bool p3]) (t' := 50) (f := (0, 0)) (blk_new w6 _) rfl (pCells_one _) (by omega) (by have := K6.size; simp; omega) HN'.out ?_
      intro a9 c9 w9 O9 k9
      have K9 : Keep NoB W0 w9 := (O6.alloc _).knob (K6.alloc _) k9
      have HS9 := Lib.hid (ks5 HS0.out K9)
      refine pl_next (fun _ => HS9.out) ?_
      refine pl_one (i := 10) rfl ?_
      go_wp2_with (fail)
      refine pl_next (fun _ => HS9.out) ?_
      refine pl_one (i := 11) rfl ?_
      go_wp2_with (fail)
      refine pl_next (fun _ => HS9.out) ?_
      clear k9 K6
      have bk := blk_keep Hblk.out K9 (fun h => h)
      have d0 := blk_cell bk 0
      have dl := blk_lt bk
      have df := blk_free bk 0
      have Hbk := Lib.hid bk
      simp at d0
      clear bk
      refine pl_one (i := 12) rfl ?_
      go_wp2_with (fail)
      refine pl_next (fun h => by cases h) ?_
      refine pl_done ?_
      have b9 := blk_setCell (i := 0) Hbk.out (.slice a9 N'.length c9)
      have k9' : Keep (OneB rb) w9 (w9.setCell ⟨rb, 0, none⟩ (.slice a9 N'.length c9)) := (Keep.refl (OneB rb) w9).setCell (p := ⟨rb, 0, none⟩) (Or.inr rfl) _
      have O9' := (O9.mono hBW).keep k9' (fun g hg e => O9.ne Hbk.out (by decide) g hg e)
      have K9' := ((HKW.out.trans K9).none).trans k9'
      simp at b9
      generalize w9.setCell ⟨rb, 0, none⟩ (.slice a9 N'.length c9) = wF at b9 k9' O9' K9' ⊢
      clear d0 dl df k9'
      have t0 := blk_cell b9 0
      have t2 := blk_cell b9 2
      have tl := blk_lt b9
      have tf := fun j => blk_free b9 j
      simp at t0 t2
      go_wp2
      go_ret
      have bF := blk_setCell (i := 2) b9 (.int .i64 (sent + 1))
      have kF : Keep (OneB rb) wF (wF.setCell ⟨rb, 2, none⟩ (.int .i64 (sent + 1))) := (Keep.refl (OneB rb) wF).setCell (p := ⟨rb, 2, none⟩) (Or.inr rfl) _
      have OF := O9'.keep kF (fun g hg e => O9'.ne b9 (by decide) g hg e)
      simp at bF
      exact ⟨rfl, ⟨a9, c9, ⟨bF, OF⟩⟩, K9'.trans kF⟩
    · go_wp2_with fail
      have bB := blk_new wE (.cells #[.int .i64 p0, .int .i64 p1, .string p2, .bool p3] 50)
      rw [sE] at bB
      have kB : Keep NoB W0 (wE.alloc (.cells #[.int .i64 p0, .int .i64 p1, .string p2, .bool p3] 50)) := kE.alloc _
      have OB := OE.alloc (.cells #[.int .i64 p0, .int .i64 p1, .string p2, .bool p3] 50)
      have HS8 := Lib.hid (ks5 HS0.out kB)
      have sB := kB.size
      refine pl_next (fun _ => HS8.out) ?_
      generalize wE.alloc (.cells #[.int .i64 p0, .int .i64 p1, .string p2, .bool p3] 50) = wB at bB kB OB HS8 sB ⊢
      refine pl_one (i := 6) rfl ?_
      refine wpList_append_prt (B := W0.heap.size) rfl (.tmp 16) (.tmp 20) 45 rfl Try.underlying45 info50' (by kernel_rfl) (by decide) (by decide) rfl OB pCells_len pCells_one rfl (Hprt.out.keep kB) (by simp; omega) sB (List.nil_append _) ?_
      intro a6 c6 w6 O6 k6
      (try simp only [Act.put, List.getElem_toArray, List.getElem_cons_succ, List.getElem_cons_zero, List.setIfInBounds_toArray, List.set_cons_succ, List.set_cons_zero])
      have K6 : Keep NoB W0 w6 := OB.knob kB k6
      have b6 := blk_keep bB k6 (fun e => by have e' := Option.some.inj (show some W0.heap.size = some (W0.heap.size + 1) from e); omega)
      have HS6 := Lib.hid (ks5 HS0.out K6)
      have s6 := K6.size
      refine pl_next (fun _ => HS6.out) ?_
      clear k6
      refine pl_one (i := 9) rfl ?_
      refine wpList_append_one (B := W0.heap.size) rfl (.tmp 21) (.tmp 23) 45 rfl Try.underlying45 info50' (by kernel_rfl) (by decide) (by decide) rfl O6 pCells_len ⟨p0, p1, p2, p3⟩ rfl (c := #[.int .i64 p0, .int .i64 p1, .string p2, .bool p3]) (t' := 50) (f := (0, 0)) b6 rfl (pCells_one _) (by omega) s6 HN'.out ?_
      intro a9 c9 w9 O9 k9
      have K9 : Keep NoB W0 w9 := O6.knob K6 k9
      have HS9 := Lib.hid (ks5 HS0.out K9)
      refine pl_next (fun _ => HS9.out) ?_
      refine pl_one (i := 10) rfl ?_
      go_wp2_with (fail)
      refine pl_next (fun _ => HS9.out) ?_
      refine pl_one (i := 11) rfl ?_
      go_wp2_with (fail)
      refine pl_next (fun _ => HS9.out) ?_
      clear k9 K6
      have bk := blk_keep Hblk.out K9 (fun h => h)
      have d0 := blk_cell bk 0
      have dl := blk_lt bk
      have df := blk_free bk 0
      have Hbk := Lib.hid bk
      simp at d0
      clear bk
      refine pl_one (i := 12) rfl ?_
      go_wp2_with (fail)
      refine pl_next (fun h => by cases h) ?_
      refine pl_done ?_
      have b9 := blk_setCell (i := 0) Hbk.out (.slice a9 N'.length c9)
      have k9' : Keep (OneB rb) w9 (w9.setCell ⟨rb, 0, none⟩ (.slice a9 N'.length c9)) := (Keep.refl (OneB rb) w9).setCell (p := ⟨rb, 0, none⟩) (Or.inr rfl) _
      have O9' := (O9.mono hBW).keep k9' (fun g hg e => O9.ne Hbk.out (by decide) g hg e)
      have K9' := ((HKW.out.trans K9).none).trans k9'
      simp at b9
      generalize w9.setCell ⟨rb, 0, none⟩ (.slice a9 N'.length c9) = wF at b9 k9' O9' K9' ⊢
      clear d0 dl df k9'
      have t0 := blk_cell b9 0
      have t2 := blk_cell b9 2
      have tl := blk_lt b9
      have tf := fun j => blk_free b9 j
      simp at t0 t2
      go_wp2
      go_ret
      have bF := blk_setCell (i := 2) b9 (.int .i64 (sent + 1))
      have kF : Keep (OneB rb) wF (wF.setCell ⟨rb, 2, none⟩ (.int .i64 (sent + 1))) := (Keep.refl (OneB rb) wF).setCell (p := ⟨rb, 2, none⟩) (Or.inr rfl) _
      have OF := O9'.keep kF (fun g hg e => O9'.ne b9 (by decide) g hg e)
      simp at bF
      exact ⟨rfl, ⟨a9, c9, ⟨bF, OF⟩⟩, K9'.trans kF⟩
  · go_wp2_with fail
    have bB := blk_new W0 (.cells #[.int .i64 p0, .int .i64 p1, .string p2, .bool p3] 50)
    have kB : Keep NoB W0 (W0.alloc (.cells #[.int .i64 p0, .int .i64 p1, .string p2, .bool p3] 50)) := (Keep.refl NoB W0).alloc _
    have HS8 := Lib.hid (ks5 HS0.out kB)
    have sB : (W0.alloc (.cells #[.int .i64 p0, .int .i64 p1, .string p2, .bool p3] 50)).heap.size = W0.heap.size + 1 := by simp
    refine pl_next (fun _ => HS8.out) ?_
    generalize W0.alloc (.cells #[.int .i64 p0, .int .i64 p1, .string p2, .bool p3] 50) = wB at bB kB HS8 sB ⊢
    refine pl_one (i := 1) rfl ?_
    go_wp2_with (fail)
    have kE : Keep NoB W0 (wB.alloc (.cells #[] 50)) := kB.alloc _
    have OE := (Own.empty wB (Nat.le_refl _) 50 4 pCells).mono (by omega : W0.heap.size ≤ wB.heap.size)
    rw [sB] at OE
    have bE := blk_alloc (o' := .cells #[] 50) bB
    have HSE := Lib.hid (ks5 HS0.out kE)
    have sE := kE.size
    refine pl_next (fun _ => HSE.out) ?_
    generalize wB.alloc (.cells #[] 50) = wE at kE OE bE HSE sE ⊢
    refine pl_one (i := 6) rfl ?_
    refine wpList_append_prt (B := W0.heap.size) rfl (.tmp 16) (.tmp 20) 45 rfl Try.underlying45 info50' (by kernel_rfl) (by decide) (by decide) rfl OE pCells_len pCells_one rfl (Hprt.out.keep kE) (by simp; omega) sE (List.nil_append _) ?_
    intro a6 c6 w6 O6 k6
    (try simp only [Act.put, List.getElem_toArray, List.getElem_cons_succ, List.getElem_cons_zero, List.setIfInBounds_toArray, List.set_cons_succ, List.set_cons_zero])
    have K6 : Keep NoB W0 w6 := OE.knob kE k6
    have b6 := blk_keep bE k6 (fun e => by have e' := Option.some.inj (show some (W0.heap.size + 1) = some W0.heap.size from e); omega)
    have HS6 := Lib.hid (ks5 HS0.out K6)
    have s6 := K6.size
    refine pl_next (fun _ => HS6.out) ?_
    clear k6
    refine pl_one (i := 9) rfl ?_
    refine wpList_append_one (B := W0.heap.size) rfl (.tmp 21) (.tmp 23) 45 rfl Try.underlying45 info50' (by kernel_rfl) (by decide) (by decide) rfl O6 pCells_len ⟨p0, p1, p2, p3⟩ rfl (c := #[.int .i64 p0, .int .i64 p1, .string p2, .bool p3]) (t' := 50) (f := (0, 0)) b6 rfl (pCells_one _) (by omega) s6 HN'.out ?_
    intro a9 c9 w9 O9 k9
    have K9 : Keep NoB W0 w9 := O6.knob K6 k9
    have HS9 := Lib.hid (ks5 HS0.out K9)
    refine pl_next (fun _ => HS9.out) ?_
    refine pl_one (i := 10) rfl ?_
    go_wp2_with (fail)
    refine pl_next (fun _ => HS9.out) ?_
    refine pl_one (i := 11) rfl ?_
    go_wp2_with (fail)
    refine pl_next (fun _ => HS9.out) ?_
    clear k9 K6
    have bk := blk_keep Hblk.out K9 (fun h => h)
    have d0 := blk_cell bk 0
    have dl := blk_lt bk
    have df := blk_free bk 0
    have Hbk := Lib.hid bk
    simp at d0
    clear bk
    refine pl_one (i := 12) rfl ?_
    go_wp2_with (fail)
    refine pl_next (fun h => by cases h) ?_
    refine pl_done ?_
    have b9 := blk_setCell (i := 0) Hbk.out (.slice a9 N'.length c9)
    have k9' : Keep (OneB rb) w9 (w9.setCell ⟨rb, 0, none⟩ (.slice a9 N'.length c9)) := (Keep.refl (OneB rb) w9).setCell (p := ⟨rb, 0, none⟩) (Or.inr rfl) _
    have O9' := (O9.mono hBW).keep k9' (fun g hg e => O9.ne Hbk.out (by decide) g hg e)
    have K9' := ((HKW.out.trans K9).none).trans k9'
    simp at b9
    generalize w9.setCell ⟨rb, 0, none⟩ (.slice a9 N'.length c9) = wF at b9 k9' O9' K9' ⊢
    clear d0 dl df k9'
    have t0 := blk_cell b9 0
    have t2 := blk_cell b9 2
    have tl := blk_lt b9
    have tf := fun j => blk_free b9 j
    simp at t0 t2
    go_wp2
    go_ret
    have bF := blk_setCell (i := 2) b9 (.int .i64 (sent + 1))
    have kF : Keep (OneB rb) wF (wF.setCell ⟨rb, 2, none⟩ (.int .i64 (sent + 1))) := (Keep.refl (OneB rb) wF).setCell (p := ⟨rb, 2, none⟩) (Or.inr rfl) _
    have OF := O9'.keep kF (fun g hg e => O9'.ne b9 (by decide) g hg e)
    simp at bF
    exact ⟨rfl, ⟨a9, c9, ⟨bF, OF⟩⟩, K9'.trans kF⟩
end Go.Proofs.Ytbaojfjabhgohaa
