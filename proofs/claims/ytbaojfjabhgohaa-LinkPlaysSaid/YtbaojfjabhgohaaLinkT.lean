/- What Take of package link comes to. -/
import Derived.Test.YtbaojfjabhgohaaLinkU
namespace Go.Proofs.Ytbaojfjabhgohaa
open Go Go.RowKit Go.Maps


theorem take_out (B nb : Nat) (a : Option Addr) (cap : Nat) (room sent : Int) (N : List HE) (i : Int) (w : World) (T : Net w B nb a cap room sent N) (hi : i < 0 ∨ N.length ≤ i) :
    Calls Try.prog 11 #[.pointer (some ⟨nb, 0, none⟩), .int .i64 i] w fun e w' => e = .returned (.tuple #[.agg #[.int .i64 0, .int .i64 0, .slice none 0 0], .bool false]) ∧ Keep NoB w w' := by
  have HT := Lib.hid T
  clear T
  have Hi := Lib.hid hi
  clear hi
  go_enter Try.func11, Try.ntmps11
  go_wp2_with fail
  refine (look_out B nb a cap room sent N i _ (HT.out.keep0 (by (repeat (with_reducible first | exact Keep.refl _ _ | assumption | refine Keep.alloc ?_ _ | refine Keep.drewN ?_ _ | refine Keep.drew ?_ | refine Keep.setCell ?_ (by first | (left; simp; done) | (left; simp; omega) | (right; simp [NoB, OneB, TwoB]; done)) _)))) Hi.out).mono ?_
  rintro _ w4 ⟨rfl, k4⟩
  have bq := blk_keep (blk_new w (.cells #[.int .i64 0, .int .i64 0, .slice none 0 0] 32)) k4 (fun h => h)
  have q0 := blk_cell bq 0
  have q1 := blk_cell bq 1
  have q2 := blk_cell bq 2
  have q3 := blk_free bq 0
  have q4 := blk_free bq 1
  have q5 := blk_free bq 2
  have q6 := blk_lt bq
  have Hbq := Lib.hid bq
  simp at q0 q1 q2
  clear bq
  go_wp2_with fail
  have x1 := blk_alloc (o' := .cells #[.int .i64 0, .int .i64 0, .slice none 0 0] 32) (blk_setCell (i := 2) (blk_setCell (i := 1) (blk_setCell (i := 0) Hbq.out (.int .i64 0)) (.int .i64 0)) (.slice none 0 0))
  have K5 : Keep NoB w _ := ((((((Keep.refl NoB w).alloc _).trans k4).setCell (p := ⟨w.heap.size, 0, none⟩) (Or.inl (by simp)) (.int .i64 0)).setCell (p := ⟨w.heap.size, 1, none⟩) (Or.inl (by simp)) (.int .i64 0)).setCell (p := ⟨w.heap.size, 2, none⟩) (Or.inl (by simp)) (.slice none 0 0)).alloc (.cells #[.int .i64 0, .int .i64 0, .slice none 0 0] 32)
  generalize World.alloc (World.setCell _ _ _) _ = W4 at x1 K5 ⊢
  have d0 := blk_cell x1 0
  have d1 := blk_cell x1 1
  have d2 := blk_cell x1 2
  simp at d0 d1 d2
  refine bodyPost_ret (v := .tuple #[.agg #[.int .i64 0, .int .i64 0, .slice none 0 0], .bool false]) (by simp [results, Try.results11, go_sem, d0, d1, d2]) rfl ?_
  exact ⟨rfl, K5⟩

theorem sub_erase (N : List HE) (i : Nat) : (N.take i ++ N.drop (i + 1)).Sublist N := by
  have := List.eraseIdx_sublist N i
  rw [List.eraseIdx_eq_take_drop_succ] at this
  exact this

def TakePost (B nb : Nat) (room sent : Int) (M : List HE) (x : HE) (S : Nat → Prop) (w : World) (e : Ending) (w' : World) : Prop :=
  ∃ a cap g, e = .returned (.tuple #[.agg #[.int .i64 x.f, .int .i64 x.t, .slice (some ⟨g, 0, none⟩) x.l.length x.l.length], .bool true]) ∧ w.heap.size ≤ g ∧ Row w' w.heap.size 5 1 cU (.slice (some ⟨g, 0, none⟩) x.l.length x.l.length) x.l ∧
    Net w' B nb a cap room sent M ∧ Keep S w w'

set_option maxHeartbeats 4000000 in
theorem take_in (B nb : Nat) (a : Option Addr) (cap : Nat) (room sent : Int) (N : List HE) (i : Nat) (x : HE) (w : World) (T : Net w B nb a cap room sent N) (hB : B ≤ w.heap.size) (hx : N[i]? = some x) (hN : N.length ≤ 1000000) :
    Calls Try.prog 11 #[.pointer (some ⟨nb, 0, none⟩), .int .i64 i] w (TakePost B nb room sent (N.take i ++ N.drop (i + 1)) x (SN nb (.slice a N.length cap)) w) := by
  have hi := (List.getElem?_eq_some_iff.1 hx).1
  obtain ⟨g, rfl, hg1, hg2⟩ := T.row.some (by intro e; rw [e] at hi; simp at hi)
  have hroom := T.row.room.2
  unfold maxLen at hroom
  obtain ⟨hroom1, hroom2⟩ := hroom
  have HX := Lib.hid hx
  clear hx
  have HT := Lib.hid T
  clear T
  obtain ⟨xf, xt, xa, xc, xn, xl⟩ := x
  have hcase : cap = i + 1 ∨ cap ≠ i + 1 := by omega
  have Hcase := Lib.hid hcase
  clear hcase
  go_enter Try.func11, Try.ntmps11
  go_wp2_with fail
  refine (look_in B nb _ cap room sent N i _ _ (HT.out.keep0 (by (repeat (with_reducible first | exact Keep.refl _ _ | assumption | refine Keep.alloc ?_ _ | refine Keep.drewN ?_ _ | refine Keep.drew ?_ | refine Keep.setCell ?_ (by first | (left; simp; done) | (left; simp; omega) | (right; simp [NoB, OneB, TwoB]; done)) _)))) HX.out).mono ?_
  rintro _ w4 ⟨g4, rfl, hg4, R4, k4⟩
  go_wp2_with fail
  have KV : Keep NoB w (World.alloc w4 (.cells #[.int .i64 xf, .int .i64 xt, .slice (some ⟨g4, 0, none⟩) xl.length xl.length] 32)) := (((Keep.refl NoB w).alloc _).trans k4).alloc _
  have RV := R4.alloc (.cells #[.int .i64 xf, .int .i64 xt, .slice (some ⟨g4, 0, none⟩) xl.length xl.length] 32)
  have bq := blk_alloc (o' := .cells #[.int .i64 xf, .int .i64 xt, .slice (some ⟨g4, 0, none⟩) xl.length xl.length] 32) (blk_keep (blk_new w (.cells #[.int .i64 0, .int .i64 0, .slice none 0 0] 32)) k4 (fun h => h))
  have bp := blk_new w4 (.cells #[.int .i64 xf, .int .i64 xt, .slice (some ⟨g4, 0, none⟩) xl.length xl.length] 32)
  have hpq : w.heap.size < w4.heap.size := by have := k4.size; simp at this; omega
  simp at hg4
  generalize World.alloc w4 (.cells #[.int .i64 xf, .int .i64 xt, .slice (some ⟨g4, 0, none⟩) xl.length xl.length] 32) = V at KV RV bq bp ⊢
  generalize w4.heap.size = pb at bp hpq ⊢
  have TV := HT.out.keep0 KV
  have bn := TV.blk
  have e1 := blk_cell bn 1
  have e2 := blk_free bn 1
  have e3 := blk_lt bn
  have sV := KV.size
  have HTV := Lib.hid TV
  have Hbn := Lib.hid bn
  have Hbq := Lib.hid bq
  have Hbp := Lib.hid bp
  have HRV := Lib.hid RV
  clear TV bn bq bp RV R4 k4
  simp at e1
  have hM1 : (N.take i).length = i := by simp; omega
  have hM2 : (N.drop (i + 1)).length = N.length - (i + 1) := by simp
  obtain ⟨M1, hM1'⟩ : ∃ l, N.take i = l := ⟨_, rfl⟩
  obtain ⟨M2, hM2'⟩ : ∃ l, N.drop (i + 1) = l := ⟨_, rfl⟩
  obtain ⟨N', hN'⟩ : ∃ l, M1 ++ M2 = l := ⟨_, rfl⟩
  rw [hM1'] at hM1
  rw [hM2'] at hM2
  have HM1 := Lib.hid hM1
  have HM2 := Lib.hid hM2
  have HM1' := Lib.hid hM1'
  have HM2' := Lib.hid hM2'
  have HN' := Lib.hid hN'
  have hfin := Lib.hid (show N.take i ++ N.drop (i + 1) = N' by rw [hM1', hM2', hN'])
  clear hM1 hM2 hM1' hM2' hN'
  have f1 : (i : Int) ≤ (i : Int) + 1 := by omega
  have f2 : (i : Int) + 1 ≤ (N.length : Int) := by omega
  have f3 : (N.length : Int) ≤ (cap : Int) := by omega
  have f4 : (0 : Int) ≤ (i : Int) + 1 := by omega
  have f5 : (i : Int) ≤ (cap : Int) := by omega
  have f6 : (0 : Int) ≤ (i : Int) := by omega
  have f7 : IntKind.i64.wrap ((i : Int) + 1) = (i : Int) + 1 := IntWalk.i64_in _ (by omega)
  have f8 : ((i : Int) + 1).toNat = i + 1 := by omega
  have HR1 : Row V.drew B 70 4 hCells (.slice (some ⟨g, 0, none⟩) i i) M1 := by
    rw [← HM1'.out]
    exact HTV.out.row.cut hCells_len i i (by omega) (Nat.le_refl _) (by omega)
  have HN2 := Lib.hid (show ∀ j u, (M2.flatMap hCells)[j]? = some u → V.drew.cell? ((⟨g, (i + 1) * 4, none⟩ : Addr).add j) = some u by show ∀ j u, (M2.flatMap hCells)[j]? = some u → V.cell? ((⟨g, (i + 1) * 4, none⟩ : Addr).add j) = some u; rw [← HM2'.out]; exact HTV.out.row.from hCells_len (i + 1))
  have HR1 := Lib.hid HR1
  clear hroom2
  rcases Hcase.out with hcap | hcap
  all_goals
    refine wp_region_plan (fun u => u.cell? ⟨nb, 1, none⟩ = some (.slice (some ⟨g, 0, none⟩) N.length cap)) [16, 17, 18] [(true, 0), (true, 1), (true, 2), (true, 3), (true, 4), (true, 5), (true, 6), (true, 7), (true, 8), (true, 9), (true, 10), (true, 11), (true, 12), (true, 13), (true, 14), (false, 15), (false, 16), (false, 17), (false, 18)] (by kernel_rfl) (by kernel_rfl) (by kernel_rfl) (by kernel_rfl) (by intro c b d v u h; cases d <;> exact h) ?_
    have e1' : V.drew.cell? ⟨nb, 1, none⟩ = some (.slice (some ⟨g, 0, none⟩) N.length cap) := e1
    refine plan_get (i := 0) rfl rfl e1' rfl (fun u hu => by (try dsimp only at hu); go_simp; rfl) (by simp only [List.setIfInBounds_toArray, List.set_cons_succ, List.set_cons_zero]; rfl) ?_
    refine plan_get (i := 1) rfl rfl e1' rfl (fun u hu => by (try dsimp only at hu); go_simp; rfl) (by simp only [List.setIfInBounds_toArray, List.set_cons_succ, List.set_cons_zero]; rfl) ?_
    refine plan_get (i := 2) rfl rfl e1' rfl (fun u hu => by (try dsimp only at hu); go_simp; rfl) (by simp only [List.setIfInBounds_toArray, List.set_cons_succ, List.set_cons_zero]; rfl) ?_
    refine plan_get (i := 3) rfl rfl e1' rfl (fun u hu => by (try dsimp only at hu); go_simp; rfl) (by simp only [List.setIfInBounds_toArray, List.set_cons_succ, List.set_cons_zero]; rfl) ?_
    refine plan_get (i := 4) rfl rfl e1' rfl (fun u hu => by (try dsimp only at hu); go_simp; rfl) (by simp only [List.setIfInBounds_toArray, List.set_cons_succ, List.set_cons_zero]; rfl) ?_
    refine plan_get (i := 5) rfl rfl e1' rfl (fun u hu => by (try dsimp only at hu); go_simp; rfl) (by simp only [List.setIfInBounds_toArray, List.set_cons_succ, List.set_cons_zero]; rfl) ?_
    refine plan_get (i := 6) rfl rfl e1' rfl (fun u hu => by (try dsimp only at hu); go_simp; rfl) (by simp only [List.setIfInBounds_toArray, List.set_cons_succ, List.set_cons_zero]; rfl) ?_
    refine plan_get (i := 7) rfl rfl e1' rfl (fun u hu => by (try dsimp only at hu); go_simp; rfl) (by simp only [List.setIfInBounds_toArray, List.set_cons_succ, List.set_cons_zero]; rfl) ?_
    refine plan_get (i := 8) rfl rfl e1' rfl (fun u hu => by (try dsimp only at hu); go_simp; rfl) (by simp only [List.setIfInBounds_toArray, List.set_cons_succ, List.set_cons_zero]; rfl) ?_
    refine plan_get (i := 9) rfl rfl e1' rfl (fun u hu => by (try dsimp only at hu); go_simp; rfl) (by simp only [List.setIfInBounds_toArray, List.set_cons_succ, List.set_cons_zero]; rfl) ?_
    refine plan_get (i := 10) rfl rfl e1' rfl (fun u hu => by (try dsimp only at hu); go_simp; rfl) (by simp only [List.setIfInBounds_toArray, List.set_cons_succ, List.set_cons_zero]; rfl) ?_
    refine plan_get (i := 11) rfl rfl e1' rfl (fun u hu => by (try dsimp only at hu); go_simp; rfl) (by simp only [List.setIfInBounds_toArray, List.set_cons_succ, List.set_cons_zero]; rfl) ?_
    refine plan_get (i := 12) rfl rfl e1' rfl (fun u hu => by (try dsimp only at hu); go_simp; rfl) (by simp only [List.setIfInBounds_toArray, List.set_cons_succ, List.set_cons_zero]; rfl) ?_
    refine plan_get (i := 13) rfl rfl e1' rfl (fun u hu => by (try dsimp only at hu); go_simp; rfl) (by simp only [List.setIfInBounds_toArray, List.set_cons_succ, List.set_cons_zero]; rfl) ?_
    refine plan_get (i := 14) rfl rfl e1' rfl (fun u hu => by (try dsimp only at hu); go_simp; rfl) (by simp only [List.setIfInBounds_toArray, List.set_cons_succ, List.set_cons_zero]; rfl) ?_
    refine plan_one (i := 15) rfl ?_
    go_wp2_with ((refine wpList_row_list rfl (.tmp 22) (.tmp 29) 60 rfl Try.underlying60 info70' (by kernel_rfl) (by decide) (by decide) rfl HR1.out hCells_len hCells_one M2 rfl HM2.out.symm (by intro j u hu; first | (with_reducible exact HN2.out j u hu) | (have e0 : M2 = [] := List.eq_nil_of_length_eq_zero (by have := HM2.out; omega); rw [e0] at hu; simp at hu)) (by have := HM1.out; have := HM2.out; omega) (by show B ≤ V.heap.size; omega) HN'.out ?_; intro a5 cc5 w5 R5 k5))
    replace k5 : Keep (fun k => (Value.slice (some ⟨g, 0, none⟩) i i).ownBlock = some k) V.drew w5 := k5
    have hgn := HR1.out.ne (show V.drew.heap[nb]? = _ from Hbn.out) (by decide) g rfl
    have b5 := blk_keep (show V.drew.heap[nb]? = _ from Hbn.out) k5 (fun e => hgn (Option.some.inj e))
    have p5 := blk_keep (show V.drew.heap[pb]? = _ from Hbp.out) k5 (fun e => HR1.out.ne (show V.drew.heap[pb]? = _ from Hbp.out) (by decide) g rfl (Option.some.inj e))
    have q5' := blk_keep (show V.drew.heap[w.heap.size]? = _ from Hbq.out) k5 (fun e => HR1.out.ne (show V.drew.heap[w.heap.size]? = _ from Hbq.out) (by decide) g rfl (Option.some.inj e))
    have z1 := blk_cell b5 1
    have z2 := blk_free b5 1
    have z3 := blk_lt b5
    have Hb5 := Lib.hid b5
    have Hp5 := Lib.hid p5
    have Hq5 := Lib.hid q5'
    have y5 := k5.some (show V.drew.cell? ⟨nb, 1, none⟩ = _ from e1) (fun e => hgn (Option.some.inj e))
    clear b5 p5 q5'
    simp at z1
    refine after_next (fun _ => y5) ?_
    refine plan_one (i := 16) rfl ?_
    go_wp2_with (fail)
    refine after_next (fun h => by cases h) ?_
    refine plan_one (i := 17) rfl ?_
    go_wp2_with (fail)
    refine after_next (fun h => by cases h) ?_
    refine plan_one (i := 18) rfl ?_
    go_wp2_with (fail)
    refine after_next (fun h => by cases h) ?_
    refine plan_done ?_
    have K6 : Keep (OneB nb) w5 (w5.setCell ⟨nb, 1, none⟩ (.slice a5 N'.length cc5)) := Keep.setCell (S := OneB nb) (p := ⟨nb, 1, none⟩) (Keep.refl _ w5) (Or.inr rfl) _
    have b6 := blk_setCell (i := 1) Hb5.out (.slice a5 N'.length cc5)
    have hqn : w.heap.size ≠ nb := by intro e; have h1 := Hbq.out; rw [e, Hbn.out] at h1; cases h1
    have hpn : pb ≠ nb := by intro e; have h1 := Hbp.out; rw [e, Hbn.out] at h1; cases h1
    have p6 := blk_keep Hp5.out K6 hpn
    have q6 := blk_keep Hq5.out K6 hqn
    have KS : Keep (SN nb (.slice (some ⟨g, 0, none⟩) N.length cap)) w (w5.setCell ⟨nb, 1, none⟩ (.slice a5 N'.length cc5)) := ((KV.none.drew.trans' k5 (fun j _ e => Or.inr e))).trans' K6 (fun j _ e => Or.inl e)
    have N6 : Net (w5.setCell ⟨nb, 1, none⟩ (.slice a5 N'.length cc5)) B nb a5 cc5 room sent N' := by
      have hsub := sub_erase N i
      rw [hfin.out] at hsub
      refine ⟨by simpa using b6, R5.keep K6 (fun j hj e => R5.ne Hb5.out (by decide) j hj e), ?_, HT.out.apart.sublist hsub⟩
      intro y hy
      have hy' := hsub.subset hy
      have hr := HTV.out.each y hy'
      exact ⟨((hr.1.keep (S := NoB) ((Keep.refl _ V).drew) (fun _ _ h => h)).keep k5 (fun j hj e => (HTV.out.ne1 hy' j hj).2 e)).keep K6 (fun j hj e => (HTV.out.ne1 hy' j hj).1 e), hr.2⟩
    have RR : Row (w5.setCell ⟨nb, 1, none⟩ (.slice a5 N'.length cc5)) w.heap.size 5 1 cU (.slice (some ⟨g4, 0, none⟩) xl.length xl.length) xl :=
      (((HRV.out.mono (by simp)).keep (S := NoB) ((Keep.refl _ V).drew) (fun _ _ h => h)).keep k5 (fun j hj e => by have h1 : g4 = j := Option.some.inj hj; have h2 : g = j := Option.some.inj e; omega)).keep K6 (fun j hj e => by have h1 : g4 = j := Option.some.inj hj; have h2 : j = nb := e; have := blk_lt HT.out.blk; omega)
    generalize World.setCell w5 ⟨nb, 1, none⟩ (.slice a5 N'.length cc5) = w6 at p6 q6 KS N6 RR ⊢
    clear z1 z2 z3 y5 K6 b6 e1 e1' e2
    have pp0 := blk_cell p6 0
    have pp1 := blk_cell p6 1
    have pp2 := blk_cell p6 2
    have pp3 := blk_lt p6
    have Hq6 := Lib.hid q6
    simp at pp0 pp1 pp2
    have q0 := blk_cell q6 0
    have q1 := blk_cell q6 1
    have q2 := blk_cell q6 2
    have q3 := blk_free q6 0
    have q4 := blk_free q6 1
    have q5 := blk_free q6 2
    have q6 := blk_lt q6
    have Hq6b := Lib.hid q6
    simp at q0 q1 q2
    clear q6
    go_wp2_with fail
    have x1 := blk_setCell (i := 2) (blk_setCell (i := 1) (blk_setCell (i := 0) Hq6.out (.int .i64 xf)) (.int .i64 xt)) (.slice (some ⟨g4, 0, none⟩) xl.length xl.length)
    have K7 : Keep (OneB w.heap.size) w6 _ := Keep.setCell (S := OneB w.heap.size) (p := ⟨w.heap.size, 2, none⟩) (Keep.setCell (S := OneB w.heap.size) (p := ⟨w.heap.size, 1, none⟩) (Keep.setCell (S := OneB w.heap.size) (p := ⟨w.heap.size, 0, none⟩) (Keep.refl _ w6) (Or.inr rfl) (.int .i64 xf)) (Or.inr rfl) (.int .i64 xt)) (Or.inr rfl) (.slice (some ⟨g4, 0, none⟩) xl.length xl.length)
    generalize World.setCell _ _ _ = W4 at x1 K7 ⊢
    have d0 := blk_cell x1 0
    have d1 := blk_cell x1 1
    have d2 := blk_cell x1 2
    simp at d0 d1 d2
    refine bodyPost_ret (v := .tuple #[.agg #[.int .i64 xf, .int .i64 xt, .slice (some ⟨g4, 0, none⟩) xl.length xl.length], .bool true]) (by simp [results, Try.results11, go_sem, d0, d1, d2]) rfl ?_
    rw [hfin.out]
    refine ⟨a5, cc5, g4, rfl, by omega, RR.keep K7 (fun j hj e => by have h1 : g4 = j := Option.some.inj hj; have h2 : j = w.heap.size := e; omega), ?_, KS.trans' K7 (fun j hj e => by have h2 : j = w.heap.size := e; omega)⟩
    refine N6.keep K7 (fun e => hqn e.symm) (fun j hj e => ?_) (fun y hy j hj e => ?_)
    · have h2 : j = w.heap.size := e
      exact N6.row.ne Hq6.out (by decide) j hj h2
    · have h2 : j = w.heap.size := e
      exact (N6.each y hy).1.ne Hq6.out (by decide) j hj h2
end Go.Proofs.Ytbaojfjabhgohaa
