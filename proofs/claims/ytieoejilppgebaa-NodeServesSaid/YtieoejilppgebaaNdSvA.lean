/- What the law's log tells of a key behind an entry. -/
import Derived.Test.YtieoejilppgebaaNdSvR
import Derived.Test.YtieoejilppgebaaNdFlushQ
namespace Go.Proofs.Ytieoejilppgebaa
open Go Go.RowKit Go.Maps
set_option maxRecDepth 100000

def enCells (x : EN) : List Value := [.int .i64 1, .int .i64 x.i, .int .i64 0, .int .i64 0, .string x.k, .bool false, .string x.t]
theorem enCells_len (x : EN) : (enCells x).length = 7 := rfl
theorem enCells_one (x : EN) : ∀ u ∈ enCells x, u.oneCell' = true := by
  intro u hu
  simp [enCells] at hu
  rcases hu with rfl | rfl | rfl | rfl | rfl | rfl <;> rfl
theorem info55' : (Try.prog.info? 55).map (fun i => (i.zero, i.size, i.bytes)) = some (some (.agg #[.int .i64 0, .int .i64 0, .int .i64 0, .int .i64 0, .string ⟨#[]⟩, .bool false, .string ⟨#[]⟩]), 7, 72) := by kernel_rfl
theorem info62' : (Try.prog.info? 62).map (fun i => (i.zero, i.size, i.bytes)) = some (some (.agg #[.int .i64 0, .int .i64 0, .string ⟨#[]⟩, .int .i64 0, .int .i64 0, .int .i64 0, .bool false, .string ⟨#[]⟩]), 8, 80) := by kernel_rfl
theorem atI_zero (G : List EN) (key : ByteArray) : atI G key 0 = ⟨0, 0, false, ⟨#[]⟩, 0⟩ := rfl

theorem blk_new2 (w : World) (o1 o2 : Obj) : ((w.alloc o1).alloc o2).heap[w.heap.size + 1]? = some o2 := by
  have h := blk_new (w.alloc o1) o2
  have e : (w.alloc o1).heap.size = w.heap.size + 1 := by simp
  rw [e] at h
  exact h


set_option maxHeartbeats 16000000 in
theorem at_any (w : World) (B gb : Nat) (ga : Option Addr) (gc : Nat) (G : List EN) (key : ByteArray) (n : Nat) (hb : w.heap[gb]? = some (.cells #[.slice ga G.length gc] 50 (0, 0))) (O : Own w B 55 7 enCells (.slice ga G.length gc) G) (hG : G.length ≤ 100000) (v : IT) (hv : atI G key n = v) :
    Calls Try.prog 18 #[.pointer (some ⟨gb, 0, none⟩), .string key, .int .i64 (n : Int)] w fun e w' => e = .returned (.agg #[.int .i64 v.e, .int .i64 v.i, .bool v.th, .string v.tx]) ∧ Keep NoB w w' := by
  have Hb := Lib.hid hb
  have HO := Lib.hid O
  have Hv := Lib.hid hv
  have b1 : ((w.alloc (.cells #[.int .i64 0, .int .i64 0, .bool false, .string ⟨#[]⟩] 29)).alloc (.cells #[.int .i64 0, .int .i64 0, .bool false, .string ⟨#[]⟩] 29)).heap[w.heap.size]? = some (.cells #[.int .i64 0, .int .i64 0, .bool false, .string ⟨#[]⟩] 29) := blk_alloc (blk_new w (.cells #[.int .i64 0, .int .i64 0, .bool false, .string ⟨#[]⟩] 29))
  have b2 : ((w.alloc (.cells #[.int .i64 0, .int .i64 0, .bool false, .string ⟨#[]⟩] 29)).alloc (.cells #[.int .i64 0, .int .i64 0, .bool false, .string ⟨#[]⟩] 29)).heap[w.heap.size + 1]? = some (.cells #[.int .i64 0, .int .i64 0, .bool false, .string ⟨#[]⟩] 29) := blk_new2 w (.cells #[.int .i64 0, .int .i64 0, .bool false, .string ⟨#[]⟩] 29) (.cells #[.int .i64 0, .int .i64 0, .bool false, .string ⟨#[]⟩] 29)
  have K2 : Keep NoB w ((w.alloc (.cells #[.int .i64 0, .int .i64 0, .bool false, .string ⟨#[]⟩] 29)).alloc (.cells #[.int .i64 0, .int .i64 0, .bool false, .string ⟨#[]⟩] 29)) := ((Keep.refl NoB w).alloc _).alloc _
  have Hb1 := Lib.hid b1
  have Hb2 := Lib.hid b2
  have HK2 := Lib.hid K2
  clear hb O hv b1 b2 K2
  go_enter Try.func18, Try.ntmps18
  go_wp2_with fail
  obtain ⟨rb, hrb⟩ : ∃ q, w.heap.size = q := ⟨_, rfl⟩
  obtain ⟨vb, hvb⟩ : ∃ q, w.heap.size + 1 = q := ⟨_, rfl⟩
  rw [hvb] at Hb2 ⊢
  rw [hrb] at Hb1 ⊢
  have hne : rb ≠ vb := by omega
  have hrw : w.heap.size ≤ rb := by omega
  have hvw : w.heap.size ≤ vb := by omega
  clear hrb hvb
  generalize (World.alloc w (.cells #[.int .i64 0, .int .i64 0, .bool false, .string ⟨#[]⟩] 29)).alloc (.cells #[.int .i64 0, .int .i64 0, .bool false, .string ⟨#[]⟩] 29) = w2 at Hb1 Hb2 HK2 ⊢
  go_loopw [8] (fun iv wr => ∃ j : Nat, j ≤ n ∧ j ≤ G.length ∧ iv = .int .i64 (j : Int) ∧ (∃ x, atI G key j = x ∧ wr.heap[vb]? = some (.cells #[.int .i64 x.e, .int .i64 x.i, .bool x.th, .string x.tx] 29)) ∧ wr.heap[rb]? = some (.cells #[.int .i64 0, .int .i64 0, .bool false, .string ⟨#[]⟩] 29) ∧ Keep NoB w wr) (fun iv _ => G.length - (intOf iv).toNat)
  case atStart => exact ⟨0, Nat.zero_le _, Nat.zero_le _, rfl, ⟨_, atI_zero G key, Hb2.out⟩, Hb1.out, HK2.out⟩
  case round =>
    clear Hb1 Hb2 HK2
    obtain ⟨j, hj1, hj2, rfl, ⟨x0, hx0, bv⟩, br, hk⟩ := hrel
    have Hx0 := Lib.hid hx0
    have Hbv := Lib.hid bv
    have Hbr := Lib.hid br
    have Hk := Lib.hid hk
    have c0 := blk_cell (blk_keep Hb.out hk (fun h => h)) 0
    have cl := blk_lt (blk_keep Hb.out hk (fun h => h))
    simp at c0
    clear hx0 bv br hk
    by_cases hgo : j < n ∧ j < G.length
    · obtain ⟨hjn, hjl⟩ := hgo
      have dn : decide ((j : Int) < (n : Int)) = true := decide_eq_true (by omega)
      obtain ⟨x, hx⟩ : ∃ x, G[j]? = some x := ⟨_, List.getElem?_eq_getElem hjl⟩
      obtain ⟨g, cg, hvv, hg1, hg2, hcx⟩ := (HO.out.keep Hk.out (fun _ _ h => h)).cells enCells_len hx
      cases hvv
      have m0 := hcx 0 _ rfl
      have m1 := hcx 1 _ rfl
      have m4 := hcx 4 _ rfl
      have m6 := hcx 6 _ rfl
      simp only [Nat.add_zero] at m0
      have Hx := Lib.hid hx
      clear hcx hx
      by_cases he : x.k = key
      · subst he
        have bv0 := Hbv.out
        go_wp2_with fail
        refine wp_region_pl (fun u => u.cell? ⟨gb, 0, none⟩ = some (.slice (some ⟨g, 0, none⟩) G.length gc) ∧ u.cell? ⟨g, j * 7, none⟩ = some (.int .i64 1) ∧ u.cell? ⟨g, j * 7 + 1, none⟩ = some (.int .i64 x.i) ∧ u.cell? ⟨g, j * 7 + 6, none⟩ = some (.string x.t)) [] (.rd 0 (.rd 1 (.rd 2 (.rd 3 (.rd 4 (.rd 5 (.rd 6 (.rd 7 (.rd 8 (.rd 9 (.rd 10 (.rd 11 (.rd 12 (.rd 13 (.rd 14 (.rd 15 (.rd 16 (.one 17 .done)))))))))))))))))) (by kernel_rfl) (by kernel_rfl) (by kernel_rfl) (by kernel_rfl) (by intro c b d v u h; cases d <;> exact h) ?_
        have kd : Keep NoB wr wr.drew := (Keep.refl NoB wr).drew
        have HS := Lib.hid (show wr.drew.cell? ⟨gb, 0, none⟩ = some (.slice (some ⟨g, 0, none⟩) G.length gc) ∧ wr.drew.cell? ⟨g, j * 7, none⟩ = some (.int .i64 1) ∧ wr.drew.cell? ⟨g, j * 7 + 1, none⟩ = some (.int .i64 x.i) ∧ wr.drew.cell? ⟨g, j * 7 + 6, none⟩ = some (.string x.t) from ⟨c0, m0, m1, m6⟩)
        have bv1 := blk_keep bv0 kd (fun h => h)
        have Hbv1 := Lib.hid bv1
        have Hbr1 := Lib.hid (blk_keep Hbr.out kd (fun h => h))
        have Hk1 := Lib.hid (Hk.out.trans kd)
        clear c0 m0 m1 m4 m6 bv0 kd
        generalize wr.drew = wd at HS bv1 Hbv1 Hbr1 Hk1 ⊢
        first
          | refine pl_get (i := 0) rfl rfl HS.out rfl (fun u hu => by (try dsimp only at hu); go_simp; rfl) (by simp only [List.setIfInBounds_toArray, List.set_cons_succ, List.set_cons_zero]; rfl) ?_
          | refine pl_skip (i := 0) rfl rfl HS.out rfl (by simp only [List.setIfInBounds_toArray, List.set_cons_succ, List.set_cons_zero]; rfl) ?_
        first
          | refine pl_get (i := 1) rfl rfl HS.out rfl (fun u hu => by (try dsimp only at hu); go_simp; rfl) (by simp only [List.setIfInBounds_toArray, List.set_cons_succ, List.set_cons_zero]; rfl) ?_
          | refine pl_skip (i := 1) rfl rfl HS.out rfl (by simp only [List.setIfInBounds_toArray, List.set_cons_succ, List.set_cons_zero]; rfl) ?_
        first
          | refine pl_get (i := 2) rfl rfl HS.out rfl (fun u hu => by (try dsimp only at hu); go_simp; rfl) (by simp only [List.setIfInBounds_toArray, List.set_cons_succ, List.set_cons_zero]; rfl) ?_
          | refine pl_skip (i := 2) rfl rfl HS.out rfl (by simp only [List.setIfInBounds_toArray, List.set_cons_succ, List.set_cons_zero]; rfl) ?_
        first
          | refine pl_get (i := 3) rfl rfl HS.out rfl (fun u hu => by (try dsimp only at hu); go_simp; rfl) (by simp only [List.setIfInBounds_toArray, List.set_cons_succ, List.set_cons_zero]; rfl) ?_
          | refine pl_skip (i := 3) rfl rfl HS.out rfl (by simp only [List.setIfInBounds_toArray, List.set_cons_succ, List.set_cons_zero]; rfl) ?_
        first
          | refine pl_get (i := 4) rfl rfl HS.out rfl (fun u hu => by (try dsimp only at hu); go_simp; rfl) (by simp only [List.setIfInBounds_toArray, List.set_cons_succ, List.set_cons_zero]; rfl) ?_
          | refine pl_skip (i := 4) rfl rfl HS.out rfl (by simp only [List.setIfInBounds_toArray, List.set_cons_succ, List.set_cons_zero]; rfl) ?_
        first
          | refine pl_get (i := 5) rfl rfl HS.out rfl (fun u hu => by (try dsimp only at hu); go_simp; rfl) (by simp only [List.setIfInBounds_toArray, List.set_cons_succ, List.set_cons_zero]; rfl) ?_
          | refine pl_skip (i := 5) rfl rfl HS.out rfl (by simp only [List.setIfInBounds_toArray, List.set_cons_succ, List.set_cons_zero]; rfl) ?_
        first
          | refine pl_get (i := 6) rfl rfl HS.out rfl (fun u hu => by (try dsimp only at hu); go_simp; rfl) (by simp only [List.setIfInBounds_toArray, List.set_cons_succ, List.set_cons_zero]; rfl) ?_
          | refine pl_skip (i := 6) rfl rfl HS.out rfl (by simp only [List.setIfInBounds_toArray, List.set_cons_succ, List.set_cons_zero]; rfl) ?_
        first
          | refine pl_get (i := 7) rfl rfl HS.out rfl (fun u hu => by (try dsimp only at hu); go_simp; rfl) (by simp only [List.setIfInBounds_toArray, List.set_cons_succ, List.set_cons_zero]; rfl) ?_
          | refine pl_skip (i := 7) rfl rfl HS.out rfl (by simp only [List.setIfInBounds_toArray, List.set_cons_succ, List.set_cons_zero]; rfl) ?_
        first
          | refine pl_get (i := 8) rfl rfl HS.out rfl (fun u hu => by (try dsimp only at hu); go_simp; rfl) (by simp only [List.setIfInBounds_toArray, List.set_cons_succ, List.set_cons_zero]; rfl) ?_
          | refine pl_skip (i := 8) rfl rfl HS.out rfl (by simp only [List.setIfInBounds_toArray, List.set_cons_succ, List.set_cons_zero]; rfl) ?_
        first
          | refine pl_get (i := 9) rfl rfl HS.out rfl (fun u hu => by (try dsimp only at hu); go_simp; rfl) (by simp only [List.setIfInBounds_toArray, List.set_cons_succ, List.set_cons_zero]; rfl) ?_
          | refine pl_skip (i := 9) rfl rfl HS.out rfl (by simp only [List.setIfInBounds_toArray, List.set_cons_succ, List.set_cons_zero]; rfl) ?_
        first
          | refine pl_get (i := 10) rfl rfl HS.out rfl (fun u hu => by (try dsimp only at hu); go_simp; rfl) (by simp only [List.setIfInBounds_toArray, List.set_cons_succ, List.set_cons_zero]; rfl) ?_
          | refine pl_skip (i := 10) rfl rfl HS.out rfl (by simp only [List.setIfInBounds_toArray, List.set_cons_succ, List.set_cons_zero]; rfl) ?_
        first
          | refine pl_get (i := 11) rfl rfl HS.out rfl (fun u hu => by (try dsimp only at hu); go_simp; rfl) (by simp only [List.setIfInBounds_toArray, List.set_cons_succ, List.set_cons_zero]; rfl) ?_
          | refine pl_skip (i := 11) rfl rfl HS.out rfl (by simp only [List.setIfInBounds_toArray, List.set_cons_succ, List.set_cons_zero]; rfl) ?_
        first
          | refine pl_get (i := 12) rfl rfl HS.out rfl (fun u hu => by (try dsimp only at hu); go_simp; rfl) (by simp only [List.setIfInBounds_toArray, List.set_cons_succ, List.set_cons_zero]; rfl) ?_
          | refine pl_skip (i := 12) rfl rfl HS.out rfl (by simp only [List.setIfInBounds_toArray, List.set_cons_succ, List.set_cons_zero]; rfl) ?_
        first
          | refine pl_get (i := 13) rfl rfl HS.out rfl (fun u hu => by (try dsimp only at hu); go_simp; rfl) (by simp only [List.setIfInBounds_toArray, List.set_cons_succ, List.set_cons_zero]; rfl) ?_
          | refine pl_skip (i := 13) rfl rfl HS.out rfl (by simp only [List.setIfInBounds_toArray, List.set_cons_succ, List.set_cons_zero]; rfl) ?_
        first
          | refine pl_get (i := 14) rfl rfl HS.out rfl (fun u hu => by (try dsimp only at hu); go_simp; rfl) (by simp only [List.setIfInBounds_toArray, List.set_cons_succ, List.set_cons_zero]; rfl) ?_
          | refine pl_skip (i := 14) rfl rfl HS.out rfl (by simp only [List.setIfInBounds_toArray, List.set_cons_succ, List.set_cons_zero]; rfl) ?_
        first
          | refine pl_get (i := 15) rfl rfl HS.out rfl (fun u hu => by (try dsimp only at hu); go_simp; rfl) (by simp only [List.setIfInBounds_toArray, List.set_cons_succ, List.set_cons_zero]; rfl) ?_
          | refine pl_skip (i := 15) rfl rfl HS.out rfl (by simp only [List.setIfInBounds_toArray, List.set_cons_succ, List.set_cons_zero]; rfl) ?_
        first
          | refine pl_get (i := 16) rfl rfl HS.out rfl (fun u hu => by (try dsimp only at hu); go_simp; rfl) (by simp only [List.setIfInBounds_toArray, List.set_cons_succ, List.set_cons_zero]; rfl) ?_
          | refine pl_skip (i := 16) rfl rfl HS.out rfl (by simp only [List.setIfInBounds_toArray, List.set_cons_succ, List.set_cons_zero]; rfl) ?_
        have q0 := blk_cell bv1 0
        have q1 := blk_cell bv1 1
        have q2 := blk_cell bv1 2
        have q3 := blk_cell bv1 3
        have g0 := blk_free bv1 0
        have g1 := blk_free bv1 1
        have g2 := blk_free bv1 2
        have g3 := blk_free bv1 3
        have ql := blk_lt bv1
        simp at q0 q1 q2 q3
        clear bv1
        refine pl_one (i := 17) rfl ?_
        go_wp2_with (fail)
        have y4 := blk_setCell (i := 3) (blk_setCell (i := 2) (blk_setCell (i := 1) (blk_setCell (i := 0) (Hbv1.out) (.int .i64 1)) (.int .i64 x.i)) (.bool true)) (.string x.t)
        have K4 := (((Keep.refl (OneB vb) wd).setCell (p := ⟨vb, 0, none⟩) (Or.inr rfl) (.int .i64 1)).setCell (p := ⟨vb, 1, none⟩) (Or.inr rfl) (.int .i64 x.i)).setCell (p := ⟨vb, 2, none⟩) (Or.inr rfl) (.bool true) |>.setCell (p := ⟨vb, 3, none⟩) (Or.inr rfl) (.string x.t)
        generalize World.setCell _ _ _ = W4 at y4 K4 ⊢
        have K5 : Keep NoB w W4 := Hk1.out.trans' K4 (fun i hi e => by have e' : i = vb := e; omega)
        have br5 := blk_keep Hbr1.out K4 (fun e => hne e)
        have hgv : gb ≠ vb := by have := blk_lt Hb.out; omega
        have hgg : g ≠ vb := by have := HO.out.lt g rfl; omega
        have HS5 := Lib.hid (show W4.cell? ⟨gb, 0, none⟩ = some (.slice (some ⟨g, 0, none⟩) G.length gc) ∧ W4.cell? ⟨g, j * 7, none⟩ = some (.int .i64 1) ∧ W4.cell? ⟨g, j * 7 + 1, none⟩ = some (.int .i64 x.i) ∧ W4.cell? ⟨g, j * 7 + 6, none⟩ = some (.string x.t) from ⟨K4.some HS.out.1 hgv, K4.some HS.out.2.1 hgg, K4.some HS.out.2.2.1 hgg, K4.some HS.out.2.2.2 hgg⟩)
        have Hy4 := Lib.hid y4
        have HK5 := Lib.hid K5
        have Hbr5 := Lib.hid br5
        clear y4 K5 br5 K4
        refine pl_next (fun _ => HS5.out) ?_
        refine pl_done ?_
        go_wp2_with fail
        go_roundw
        case rel => exact ⟨j + 1, hjn, hjl, by go_num, ⟨⟨1, x.i, true, x.t, 0⟩, by rw [atI_succ Hx.out, if_pos rfl], Hy4.out⟩, Hbr5.out, HK5.out⟩
        case measure => simp [intOf]; omega
      · have hn1 := tx_ne he
        go_wp2_with fail
        go_roundw
        case rel => exact ⟨j + 1, hjn, hjl, by go_num, ⟨x0, by rw [atI_succ Hx.out, if_neg he]; exact Hx0.out, Hbv.out⟩, Hbr.out, Hk.out⟩
        case measure => simp [intOf]; omega
    · have hv' : x0 = v := by
        rw [← Hx0.out, ← Hv.out]
        by_cases h1 : j < n
        · rw [atI_over (show G.length ≤ n by omega), show j = G.length by omega]
        · rw [show n = j by omega]
      subst hv'
      have hout : (¬ j < n ∧ decide ((j : Int) < (n : Int)) = false) ∨ (j < n ∧ decide ((j : Int) < (n : Int)) = true ∧ ¬ j < G.length) := by
        by_cases h1 : j < n
        · exact Or.inr ⟨h1, decide_eq_true (by omega), fun h => hgo ⟨h1, h⟩⟩
        · exact Or.inl ⟨h1, decide_eq_false (by omega)⟩
      have bv := Hbv.out
      have v0 := blk_cell bv 0
      have v1 := blk_cell bv 1
      have v2 := blk_cell bv 2
      have v3 := blk_cell bv 3
      have vl := blk_lt bv
      have br := Hbr.out
      have q0 := blk_cell br 0
      have q1 := blk_cell br 1
      have q2 := blk_cell br 2
      have q3 := blk_cell br 3
      have g0 := blk_free br 0
      have g1 := blk_free br 1
      have g2 := blk_free br 2
      have g3 := blk_free br 3
      have ql := blk_lt br
      simp at q0 q1 q2 q3
      simp at v0 v1 v2 v3
      clear bv br hgo
      rcases hout with ⟨h1, d1⟩ | ⟨h1, d1, h2⟩
      all_goals
        go_wp2_with fail
        have y4 := blk_setCell (i := 3) (blk_setCell (i := 2) (blk_setCell (i := 1) (blk_setCell (i := 0) (Hbr.out) (.int .i64 x0.e)) (.int .i64 x0.i)) (.bool x0.th)) (.string x0.tx)
        have K4 := (((Keep.refl (OneB rb) wr).setCell (p := ⟨rb, 0, none⟩) (Or.inr rfl) (.int .i64 x0.e)).setCell (p := ⟨rb, 1, none⟩) (Or.inr rfl) (.int .i64 x0.i)).setCell (p := ⟨rb, 2, none⟩) (Or.inr rfl) (.bool x0.th) |>.setCell (p := ⟨rb, 3, none⟩) (Or.inr rfl) (.string x0.tx)
        generalize World.setCell _ _ _ = W4 at y4 K4 ⊢
        have d0 := blk_cell y4 0
        have d1 := blk_cell y4 1
        have d2 := blk_cell y4 2
        have d3 := blk_cell y4 3
        simp at d0 d1 d2 d3
        refine bodyPost_ret (v := .agg #[.int .i64 x0.e, .int .i64 x0.i, .bool x0.th, .string x0.tx]) (by simp [results, Try.results18, go_sem, d0, d1, d2, d3]) rfl ⟨rfl, ?_⟩
        exact Hk.out.trans' K4 (fun i hi e => by have e' : i = rb := e; omega)
end Go.Proofs.Ytieoejilppgebaa
