/- What Flush, Look and Purge of package node come to. -/
import Derived.Test.YtieoejilppgebaaNdG
import Derived.Test.YtieoejilppgebaaNdItS
import Derived.Test.YtieoejilppgebaaNdMarkerDrop
namespace Go.Proofs.Ytieoejilppgebaa
open Go Go.RowKit Go.Maps
set_option maxRecDepth 100000


/-- A node without items, leases, tombstones. -/
abbrev NS.flushed (s : NS) : NS := { s with kept := s.kept, N := [], last := s.last, L := [], fl := 0, H := [] }
abbrev NS.purged (s : NS) : NS := { s with M := [], kept := 0, N := [], last := s.last, L := [], fl := 0, H := [], cold := false }

set_option maxHeartbeats 4000000 in
theorem flush_any (w : World) (b : NB) (s : NS) (D : Nd w b s) :
    Calls Try.prog 13 #[.pointer (some ⟨b.nb, 0, none⟩)] w (VPost b s s.flushed (.tuple #[]) w) := by
  have HD := Lib.hid D
  have c0 := blk_cell D.blk 0
  have c1 := blk_cell D.blk 1
  have c2 := blk_cell D.blk 2
  have c3 := blk_cell D.blk 3
  have c4 := blk_cell D.blk 4
  have c5 := blk_cell D.blk 5
  have cl := blk_lt D.blk
  simp at c0 c1 c2 c3 c4 c5
  clear D
  go_enter Try.func13, Try.ntmps13
  go_wp2_with fail
  refine (It.clear_any b.cb b.cm s.room s.kept s.N _ HD.out.it).mono ?_
  rintro _ w1 ⟨rfl, T1, k1⟩
  have P1 := Lib.hid (HD.out.setI T1 k1 (fun x hx => by cases hx))
  clear c0 c1 c2 c3 c4 c5 cl
  have c0 := blk_cell P1.out.D.blk 0
  have c1 := blk_cell P1.out.D.blk 1
  have c2 := blk_cell P1.out.D.blk 2
  have c3 := blk_cell P1.out.D.blk 3
  have c4 := blk_cell P1.out.D.blk 4
  have c5 := blk_cell P1.out.D.blk 5
  have cl := blk_lt P1.out.D.blk
  simp at c0 c1 c2 c3 c4 c5
  clear T1 k1
  go_wp2_with fail
  refine (Ls.clear_any b.lt b.lm 32 10 s.last s.L _ P1.out.D.ls).mono ?_
  rintro _ w2 ⟨rfl, T2, k2⟩
  have P2 := Lib.hid (P1.out.trans (P1.out.D.setL T2 k2))
  clear c0 c1 c2 c3 c4 c5 cl
  have c0 := blk_cell P2.out.D.blk 0
  have c1 := blk_cell P2.out.D.blk 1
  have c2 := blk_cell P2.out.D.blk 2
  have c3 := blk_cell P2.out.D.blk 3
  have c4 := blk_cell P2.out.D.blk 4
  have c5 := blk_cell P2.out.D.blk 5
  have cl := blk_lt P2.out.D.blk
  simp at c0 c1 c2 c3 c4 c5
  clear T2 k2
  go_wp2_with fail
  refine (Hd.clear_any b.ht b.hm 32 s.fl s.H _ P2.out.D.hd).mono ?_
  rintro _ w3 ⟨rfl, T3, k3⟩
  have P3 := Lib.hid (P2.out.trans (P2.out.D.setH T3 k3))
  clear c0 c1 c2 c3 c4 c5 cl
  clear T3 k3
  go_wp2_with fail
  go_end0
  exact ⟨rfl, P3.out⟩

/-! ### Look -/
abbrev lookV (u i m l t : Int) (c : Bool) : Value := .agg #[.int .i64 u, .int .i64 i, .int .i64 m, .int .i64 l, .int .i64 t, .bool c]
theorem nd_cells {w : World} {b : NB} {s : NS} (D : Nd w b s) : w.cell? ⟨b.nb, 0, none⟩ = some (.pointer (some ⟨b.mt, 0, none⟩)) ∧ w.cell? ⟨b.nb, 1, none⟩ = some (.pointer (some ⟨b.cb, 0, none⟩)) ∧ w.cell? ⟨b.nb, 2, none⟩ = some (.pointer (some ⟨b.lt, 0, none⟩)) ∧ w.cell? ⟨b.nb, 3, none⟩ = some (.pointer (some ⟨b.ht, 0, none⟩)) ∧ w.cell? ⟨b.nb, 4, none⟩ = some (.bool s.cold) := by
  have c0 := blk_cell D.blk 0
  have c1 := blk_cell D.blk 1
  have c2 := blk_cell D.blk 2
  have c3 := blk_cell D.blk 3
  have c4 := blk_cell D.blk 4
  have c5 := blk_cell D.blk 5
  have cl := blk_lt D.blk
  simp at c0 c1 c2 c3 c4 c5
  exact ⟨c0, c1, c2, c3, c4⟩

set_option maxHeartbeats 16000000 in
theorem look_any (w : World) (b : NB) (s : NS) (D : Nd w b s) (hlen : s.N.length ≤ 100000) (u i m l t : Int) (hu : It.sumS s.N + s.kept = u) (hi : (s.N.length : Int) = i) (hm : (s.M.length : Int) = m) (hl : (s.L.length : Int) = l) (ht : (s.H.length : Int) = t) (c : Bool) (hc : s.cold = c) :
    Calls Try.prog 14 #[.pointer (some ⟨b.nb, 0, none⟩)] w fun e w' => e = .returned (lookV u i m l t c) ∧ Keep NoB w w' := by
  have HD := Lib.hid D
  have k0 : Keep NoB w (w.alloc (.cells #[.int .i64 0, .int .i64 0, .int .i64 0, .int .i64 0, .int .i64 0, .bool false] 42)) := (Keep.refl NoB w).alloc _
  have r0 := blk_new w (.cells #[.int .i64 0, .int .i64 0, .int .i64 0, .int .i64 0, .int .i64 0, .bool false] 42)
  obtain ⟨G, hG⟩ : ∃ l, s.N.map (·.k) = l := ⟨_, rfl⟩
  have hGl : (G.length : Int) = i := by rw [← hG, List.length_map]; exact hi
  have HG := Lib.hid hG
  have Hu := Lib.hid hu
  have HGl := Lib.hid hGl
  have Hm := Lib.hid hm
  have Hl := Lib.hid hl
  have Ht := Lib.hid ht
  have Hc := Lib.hid hc
  have c0 := blk_cell D.blk 0
  have c1 := blk_cell D.blk 1
  have c2 := blk_cell D.blk 2
  have c3 := blk_cell D.blk 3
  have c4 := blk_cell D.blk 4
  have c5 := blk_cell D.blk 5
  have cl := blk_lt D.blk
  simp at c0 c1 c2 c3 c4 c5
  clear D hG hu hi hm hl ht hGl hc
  go_enter Try.func14, Try.ntmps14
  go_wp2_with fail
  refine wp_region_pl (fun x => x.cell? ⟨b.nb, 0, none⟩ = some (.pointer (some ⟨b.mt, 0, none⟩)) ∧ x.cell? ⟨b.nb, 1, none⟩ = some (.pointer (some ⟨b.cb, 0, none⟩)) ∧ x.cell? ⟨b.nb, 2, none⟩ = some (.pointer (some ⟨b.lt, 0, none⟩)) ∧ x.cell? ⟨b.nb, 3, none⟩ = some (.pointer (some ⟨b.ht, 0, none⟩)) ∧ x.cell? ⟨b.nb, 4, none⟩ = some (.bool s.cold)) [] (.rd 0 (.rd 1 (.rd 2 (.rd 3 (.rd 5 (.rd 6 (.rd 7 (.rd 8 (.rd 11 (.rd 12 (.rd 13 (.rd 14 (.rd 15 (.rd 17 (.rd 18 (.rd 19 (.rd 20 (.rd 22 (.rd 23 (.rd 24 (.rd 25 (.rd 27 (.rd 28 (.rd 29 (.rd 30 (.one 4 (.one 9 (.rd 10 (.one 16 (.one 21 (.one 26 (.rd 31 (.one 32 .done))))))))))))))))))))))))))))))))) (by kernel_rfl) (by kernel_rfl) (by kernel_rfl) (by kernel_rfl) (by intro c b d v u h; cases d <;> exact h) ?_
  have kd : Keep NoB w (w.alloc (.cells #[.int .i64 0, .int .i64 0, .int .i64 0, .int .i64 0, .int .i64 0, .bool false] 42)).drew := k0.drew
  have b1 := blk_drew r0
  obtain ⟨rb, hrb⟩ : ∃ q, w.heap.size = q := ⟨_, rfl⟩
  rw [hrb] at b1 ⊢
  have D1 := Lib.hid (HD.out.keep0 kd)
  have K1 := Lib.hid kd
  have Hb1 := Lib.hid b1
  clear c0 c1 c2 c3 c4 c5 cl
  clear k0 r0 kd b1
  generalize (World.alloc w (.cells #[.int .i64 0, .int .i64 0, .int .i64 0, .int .i64 0, .int .i64 0, .bool false] 42)).drew = w1 at D1 K1 Hb1 ⊢
  have HS1 := Lib.hid (nd_cells D1.out)
  first
    | refine pl_get (i := 0) rfl rfl HS1.out rfl (fun u hu => by (try dsimp only at hu); go_simp; rfl) (by simp only [List.setIfInBounds_toArray, List.set_cons_succ, List.set_cons_zero]; rfl) ?_
    | refine pl_skip (i := 0) rfl rfl HS1.out rfl (by simp only [List.setIfInBounds_toArray, List.set_cons_succ, List.set_cons_zero]; rfl) ?_
  first
    | refine pl_get (i := 1) rfl rfl HS1.out rfl (fun u hu => by (try dsimp only at hu); go_simp; rfl) (by simp only [List.setIfInBounds_toArray, List.set_cons_succ, List.set_cons_zero]; rfl) ?_
    | refine pl_skip (i := 1) rfl rfl HS1.out rfl (by simp only [List.setIfInBounds_toArray, List.set_cons_succ, List.set_cons_zero]; rfl) ?_
  first
    | refine pl_get (i := 2) rfl rfl HS1.out rfl (fun u hu => by (try dsimp only at hu); go_simp; rfl) (by simp only [List.setIfInBounds_toArray, List.set_cons_succ, List.set_cons_zero]; rfl) ?_
    | refine pl_skip (i := 2) rfl rfl HS1.out rfl (by simp only [List.setIfInBounds_toArray, List.set_cons_succ, List.set_cons_zero]; rfl) ?_
  first
    | refine pl_get (i := 3) rfl rfl HS1.out rfl (fun u hu => by (try dsimp only at hu); go_simp; rfl) (by simp only [List.setIfInBounds_toArray, List.set_cons_succ, List.set_cons_zero]; rfl) ?_
    | refine pl_skip (i := 3) rfl rfl HS1.out rfl (by simp only [List.setIfInBounds_toArray, List.set_cons_succ, List.set_cons_zero]; rfl) ?_
  first
    | refine pl_get (i := 5) rfl rfl HS1.out rfl (fun u hu => by (try dsimp only at hu); go_simp; rfl) (by simp only [List.setIfInBounds_toArray, List.set_cons_succ, List.set_cons_zero]; rfl) ?_
    | refine pl_skip (i := 5) rfl rfl HS1.out rfl (by simp only [List.setIfInBounds_toArray, List.set_cons_succ, List.set_cons_zero]; rfl) ?_
  first
    | refine pl_get (i := 6) rfl rfl HS1.out rfl (fun u hu => by (try dsimp only at hu); go_simp; rfl) (by simp only [List.setIfInBounds_toArray, List.set_cons_succ, List.set_cons_zero]; rfl) ?_
    | refine pl_skip (i := 6) rfl rfl HS1.out rfl (by simp only [List.setIfInBounds_toArray, List.set_cons_succ, List.set_cons_zero]; rfl) ?_
  first
    | refine pl_get (i := 7) rfl rfl HS1.out rfl (fun u hu => by (try dsimp only at hu); go_simp; rfl) (by simp only [List.setIfInBounds_toArray, List.set_cons_succ, List.set_cons_zero]; rfl) ?_
    | refine pl_skip (i := 7) rfl rfl HS1.out rfl (by simp only [List.setIfInBounds_toArray, List.set_cons_succ, List.set_cons_zero]; rfl) ?_
  first
    | refine pl_get (i := 8) rfl rfl HS1.out rfl (fun u hu => by (try dsimp only at hu); go_simp; rfl) (by simp only [List.setIfInBounds_toArray, List.set_cons_succ, List.set_cons_zero]; rfl) ?_
    | refine pl_skip (i := 8) rfl rfl HS1.out rfl (by simp only [List.setIfInBounds_toArray, List.set_cons_succ, List.set_cons_zero]; rfl) ?_
  first
    | refine pl_get (i := 11) rfl rfl HS1.out rfl (fun u hu => by (try dsimp only at hu); go_simp; rfl) (by simp only [List.setIfInBounds_toArray, List.set_cons_succ, List.set_cons_zero]; rfl) ?_
    | refine pl_skip (i := 11) rfl rfl HS1.out rfl (by simp only [List.setIfInBounds_toArray, List.set_cons_succ, List.set_cons_zero]; rfl) ?_
  first
    | refine pl_get (i := 12) rfl rfl HS1.out rfl (fun u hu => by (try dsimp only at hu); go_simp; rfl) (by simp only [List.setIfInBounds_toArray, List.set_cons_succ, List.set_cons_zero]; rfl) ?_
    | refine pl_skip (i := 12) rfl rfl HS1.out rfl (by simp only [List.setIfInBounds_toArray, List.set_cons_succ, List.set_cons_zero]; rfl) ?_
  first
    | refine pl_get (i := 13) rfl rfl HS1.out rfl (fun u hu => by (try dsimp only at hu); go_simp; rfl) (by simp only [List.setIfInBounds_toArray, List.set_cons_succ, List.set_cons_zero]; rfl) ?_
    | refine pl_skip (i := 13) rfl rfl HS1.out rfl (by simp only [List.setIfInBounds_toArray, List.set_cons_succ, List.set_cons_zero]; rfl) ?_
  first
    | refine pl_get (i := 14) rfl rfl HS1.out rfl (fun u hu => by (try dsimp only at hu); go_simp; rfl) (by simp only [List.setIfInBounds_toArray, List.set_cons_succ, List.set_cons_zero]; rfl) ?_
    | refine pl_skip (i := 14) rfl rfl HS1.out rfl (by simp only [List.setIfInBounds_toArray, List.set_cons_succ, List.set_cons_zero]; rfl) ?_
  first
    | refine pl_get (i := 15) rfl rfl HS1.out rfl (fun u hu => by (try dsimp only at hu); go_simp; rfl) (by simp only [List.setIfInBounds_toArray, List.set_cons_succ, List.set_cons_zero]; rfl) ?_
    | refine pl_skip (i := 15) rfl rfl HS1.out rfl (by simp only [List.setIfInBounds_toArray, List.set_cons_succ, List.set_cons_zero]; rfl) ?_
  first
    | refine pl_get (i := 17) rfl rfl HS1.out rfl (fun u hu => by (try dsimp only at hu); go_simp; rfl) (by simp only [List.setIfInBounds_toArray, List.set_cons_succ, List.set_cons_zero]; rfl) ?_
    | refine pl_skip (i := 17) rfl rfl HS1.out rfl (by simp only [List.setIfInBounds_toArray, List.set_cons_succ, List.set_cons_zero]; rfl) ?_
  first
    | refine pl_get (i := 18) rfl rfl HS1.out rfl (fun u hu => by (try dsimp only at hu); go_simp; rfl) (by simp only [List.setIfInBounds_toArray, List.set_cons_succ, List.set_cons_zero]; rfl) ?_
    | refine pl_skip (i := 18) rfl rfl HS1.out rfl (by simp only [List.setIfInBounds_toArray, List.set_cons_succ, List.set_cons_zero]; rfl) ?_
  first
    | refine pl_get (i := 19) rfl rfl HS1.out rfl (fun u hu => by (try dsimp only at hu); go_simp; rfl) (by simp only [List.setIfInBounds_toArray, List.set_cons_succ, List.set_cons_zero]; rfl) ?_
    | refine pl_skip (i := 19) rfl rfl HS1.out rfl (by simp only [List.setIfInBounds_toArray, List.set_cons_succ, List.set_cons_zero]; rfl) ?_
  first
    | refine pl_get (i := 20) rfl rfl HS1.out rfl (fun u hu => by (try dsimp only at hu); go_simp; rfl) (by simp only [List.setIfInBounds_toArray, List.set_cons_succ, List.set_cons_zero]; rfl) ?_
    | refine pl_skip (i := 20) rfl rfl HS1.out rfl (by simp only [List.setIfInBounds_toArray, List.set_cons_succ, List.set_cons_zero]; rfl) ?_
  first
    | refine pl_get (i := 22) rfl rfl HS1.out rfl (fun u hu => by (try dsimp only at hu); go_simp; rfl) (by simp only [List.setIfInBounds_toArray, List.set_cons_succ, List.set_cons_zero]; rfl) ?_
    | refine pl_skip (i := 22) rfl rfl HS1.out rfl (by simp only [List.setIfInBounds_toArray, List.set_cons_succ, List.set_cons_zero]; rfl) ?_
  first
    | refine pl_get (i := 23) rfl rfl HS1.out rfl (fun u hu => by (try dsimp only at hu); go_simp; rfl) (by simp only [List.setIfInBounds_toArray, List.set_cons_succ, List.set_cons_zero]; rfl) ?_
    | refine pl_skip (i := 23) rfl rfl HS1.out rfl (by simp only [List.setIfInBounds_toArray, List.set_cons_succ, List.set_cons_zero]; rfl) ?_
  first
    | refine pl_get (i := 24) rfl rfl HS1.out rfl (fun u hu => by (try dsimp only at hu); go_simp; rfl) (by simp only [List.setIfInBounds_toArray, List.set_cons_succ, List.set_cons_zero]; rfl) ?_
    | refine pl_skip (i := 24) rfl rfl HS1.out rfl (by simp only [List.setIfInBounds_toArray, List.set_cons_succ, List.set_cons_zero]; rfl) ?_
  first
    | refine pl_get (i := 25) rfl rfl HS1.out rfl (fun u hu => by (try dsimp only at hu); go_simp; rfl) (by simp only [List.setIfInBounds_toArray, List.set_cons_succ, List.set_cons_zero]; rfl) ?_
    | refine pl_skip (i := 25) rfl rfl HS1.out rfl (by simp only [List.setIfInBounds_toArray, List.set_cons_succ, List.set_cons_zero]; rfl) ?_
  first
    | refine pl_get (i := 27) rfl rfl HS1.out rfl (fun u hu => by (try dsimp only at hu); go_simp; rfl) (by simp only [List.setIfInBounds_toArray, List.set_cons_succ, List.set_cons_zero]; rfl) ?_
    | refine pl_skip (i := 27) rfl rfl HS1.out rfl (by simp only [List.setIfInBounds_toArray, List.set_cons_succ, List.set_cons_zero]; rfl) ?_
  first
    | refine pl_get (i := 28) rfl rfl HS1.out rfl (fun u hu => by (try dsimp only at hu); go_simp; rfl) (by simp only [List.setIfInBounds_toArray, List.set_cons_succ, List.set_cons_zero]; rfl) ?_
    | refine pl_skip (i := 28) rfl rfl HS1.out rfl (by simp only [List.setIfInBounds_toArray, List.set_cons_succ, List.set_cons_zero]; rfl) ?_
  first
    | refine pl_get (i := 29) rfl rfl HS1.out rfl (fun u hu => by (try dsimp only at hu); go_simp; rfl) (by simp only [List.setIfInBounds_toArray, List.set_cons_succ, List.set_cons_zero]; rfl) ?_
    | refine pl_skip (i := 29) rfl rfl HS1.out rfl (by simp only [List.setIfInBounds_toArray, List.set_cons_succ, List.set_cons_zero]; rfl) ?_
  first
    | refine pl_get (i := 30) rfl rfl HS1.out rfl (fun u hu => by (try dsimp only at hu); go_simp; rfl) (by simp only [List.setIfInBounds_toArray, List.set_cons_succ, List.set_cons_zero]; rfl) ?_
    | refine pl_skip (i := 30) rfl rfl HS1.out rfl (by simp only [List.setIfInBounds_toArray, List.set_cons_succ, List.set_cons_zero]; rfl) ?_
  refine pl_one (i := 4) rfl ?_
  go_wp2_with ((go_at_call 37; refine (It.used_any b.cb b.cm s.room s.kept s.N _ D1.out.it u Hu.out).mono ?_; rintro _ w2 ⟨rfl, k2⟩))
  have D2 := Lib.hid (D1.out.keep0 k2)
  have K2 := Lib.hid (K1.out.trans k2)
  have Hb2 := Lib.hid (blk_keep Hb1.out k2 (fun h => h))
  have HS2 := Lib.hid (nd_cells D2.out)
  clear k2
  refine pl_next (fun _ => HS2.out) ?_
  refine pl_one (i := 9) rfl ?_
  go_wp2_with ((go_at_call 38; refine (It.keys_any b.cb b.cm s.room s.kept s.N _ D2.out.it hlen G HG.out).mono ?_; rintro _ w3 ⟨a3, c3, rfl, O3, k3⟩))
  have D3 := Lib.hid (D2.out.keep0 k3)
  have K3 := Lib.hid (K2.out.trans k3)
  have Hb3 := Lib.hid (blk_keep Hb2.out k3 (fun h => h))
  have HS3 := Lib.hid (nd_cells D3.out)
  clear k3 O3
  refine pl_next (fun _ => HS3.out) ?_
  first
    | refine pl_get (i := 10) rfl rfl HS3.out rfl (fun u hu => by (try dsimp only at hu); go_simp; rfl) (by simp only [List.setIfInBounds_toArray, List.set_cons_succ, List.set_cons_zero]; rfl) ?_
    | refine pl_skip (i := 10) rfl rfl HS3.out rfl (by simp only [List.setIfInBounds_toArray, List.set_cons_succ, List.set_cons_zero]; rfl) ?_
  refine pl_one (i := 16) rfl ?_
  go_wp2_with ((go_at_call 28; refine (Mk.len_any b.mt b.mm 32 s.M _ D3.out.mks).mono ?_; rintro _ w4 ⟨rfl, rfl⟩))
  refine pl_next (fun _ => HS3.out) ?_
  refine pl_one (i := 21) rfl ?_
  go_wp2_with ((go_at_call 39; refine (Ls.len_any b.lt b.lm 32 10 s.last s.L _ D3.out.ls).mono ?_; rintro _ w5 ⟨rfl, rfl⟩))
  refine pl_next (fun _ => HS3.out) ?_
  refine pl_one (i := 26) rfl ?_
  go_wp2_with ((go_at_call 40; refine (Hd.len_any b.ht b.hm 32 s.fl s.H _ D3.out.hd).mono ?_; rintro _ w6 ⟨rfl, rfl⟩))
  refine pl_next (fun _ => HS3.out) ?_
  first
    | refine pl_get (i := 31) rfl rfl HS3.out rfl (fun u hu => by (try dsimp only at hu); go_simp; rfl) (by simp only [List.setIfInBounds_toArray, List.set_cons_succ, List.set_cons_zero]; rfl) ?_
    | refine pl_skip (i := 31) rfl rfl HS3.out rfl (by simp only [List.setIfInBounds_toArray, List.set_cons_succ, List.set_cons_zero]; rfl) ?_
  have b3 := Hb3.out
  have q0 := blk_cell b3 0
  have q1 := blk_cell b3 1
  have q2 := blk_cell b3 2
  have q3 := blk_cell b3 3
  have q4 := blk_cell b3 4
  have q5 := blk_cell b3 5
  have g0 := blk_free b3 0
  have g1 := blk_free b3 1
  have g2 := blk_free b3 2
  have g3 := blk_free b3 3
  have g4 := blk_free b3 4
  have g5 := blk_free b3 5
  have ql := blk_lt b3
  simp at q0 q1 q2 q3 q4 q5
  clear b3
  refine pl_one (i := 32) rfl ?_
  go_wp2_with (fail)
  rw [HGl.out, Hm.out, Hl.out, Ht.out, Hc.out]
  have y7 := blk_setCell (i := 5) (blk_setCell (i := 4) (blk_setCell (i := 3) (blk_setCell (i := 2) (blk_setCell (i := 1) (blk_setCell (i := 0) Hb3.out (.int .i64 u)) (.int .i64 i)) (.int .i64 m)) (.int .i64 l)) (.int .i64 t)) (.bool c)
  have K7 := (((((Keep.refl (OneB rb) w6).setCell (p := ⟨rb, 0, none⟩) (Or.inr rfl) (.int .i64 u)).setCell (p := ⟨rb, 1, none⟩) (Or.inr rfl) (.int .i64 i)).setCell (p := ⟨rb, 2, none⟩) (Or.inr rfl) (.int .i64 m)).setCell (p := ⟨rb, 3, none⟩) (Or.inr rfl) (.int .i64 l)).setCell (p := ⟨rb, 4, none⟩) (Or.inr rfl) (.int .i64 t) |>.setCell (p := ⟨rb, 5, none⟩) (Or.inr rfl) (.bool c)
  generalize World.setCell _ _ _ = W7 at y7 K7 ⊢
  have D7 := D3.out.keep K7 (fun k hk e => D3.out.nk_sh ⟨_, _, Hb3.out⟩ (by decide) (by decide) (by decide) (by decide) (by decide) (by decide) (by have e' : k = rb := e; rw [← e']; exact hk))
  have hs7 := nd_cells D7
  rw [Hc.out] at hs7
  have HS7 := Lib.hid hs7
  clear hs7
  refine pl_next (fun _ => HS7.out) ?_
  refine pl_done ?_
  have d0 := blk_cell y7 0
  have d1 := blk_cell y7 1
  have d2 := blk_cell y7 2
  have d3 := blk_cell y7 3
  have d4 := blk_cell y7 4
  have d5 := blk_cell y7 5
  simp at d0 d1 d2 d3 d4 d5
  go_wp2_with fail
  refine bodyPost_ret (v := lookV u i m l t c) (by simp [results, Try.results14, go_sem, d0, d1, d2, d3, d4, d5]) rfl ⟨rfl, ?_⟩
  exact K3.out.trans' K7 (fun i hi e => by have e' : i = rb := e; omega)

end Go.Proofs.Ytieoejilppgebaa
