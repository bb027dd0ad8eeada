/- What Double of package link comes to. -/
import Derived.Test.YtbaojfjabhgohaaLinkS
namespace Go.Proofs.Ytbaojfjabhgohaa
open Go Go.RowKit Go.Maps


theorem double_out (B nb : Nat) (a : Option Addr) (cap : Nat) (room sent : Int) (N : List HE) (i : Int) (w : World) (T : Net w B nb a cap room sent N) (hi : i < 0 ∨ N.length ≤ i) :
    Calls Try.prog 15 #[.pointer (some ⟨nb, 0, none⟩), .int .i64 i] w fun e w' => e = .returned (.bool false) ∧ Keep NoB w w' := by
  have HT := Lib.hid T
  have Hi := Lib.hid hi
  clear T hi
  go_enter Try.func15, Try.ntmps15
  go_wp2_with fail
  refine (look_out B nb a cap room sent N i _ (HT.out.keep0 (by (repeat (with_reducible first | exact Keep.refl _ _ | assumption | refine Keep.alloc ?_ _ | refine Keep.drewN ?_ _ | refine Keep.drew ?_ | refine Keep.setCell ?_ (by first | (left; simp; done) | (left; simp; omega) | (right; simp [NoB, OneB, TwoB]; done)) _)))) Hi.out).mono ?_
  rintro _ w4 ⟨rfl, k4⟩
  go_wp2_with fail
  go_quiet (fail)
  go_wp2
  go_ret
  exact ⟨rfl, (k4.alloc _).drewN _⟩

theorem double_full (B nb : Nat) (a : Option Addr) (cap : Nat) (room sent : Int) (N : List HE) (i : Nat) (x : HE) (w : World) (T : Net w B nb a cap room sent N) (hx : N[i]? = some x) (hr : room ≤ N.length) :
    Calls Try.prog 15 #[.pointer (some ⟨nb, 0, none⟩), .int .i64 i] w fun e w' => e = .returned (.bool false) ∧ Keep NoB w w' := by
  have HT := Lib.hid T
  have Hx := Lib.hid hx
  clear T hx
  obtain ⟨xf, xt, xa, xc, xn, xl⟩ := x
  have hd : decide (room ≤ (N.length : Int)) = true := by simpa using hr
  go_enter Try.func15, Try.ntmps15
  go_wp2_with fail
  refine (look_in B nb a cap room sent N i _ _ (HT.out.keep0 (by (repeat (with_reducible first | exact Keep.refl _ _ | assumption | refine Keep.alloc ?_ _ | refine Keep.drewN ?_ _ | refine Keep.drew ?_ | refine Keep.setCell ?_ (by first | (left; simp; done) | (left; simp; omega) | (right; simp [NoB, OneB, TwoB]; done)) _)))) Hx.out).mono ?_
  rintro _ w4 ⟨g4, rfl, hg4, R4, k4⟩
  have T4 := HT.out.keep0 k4
  have c0 := blk_cell T4.blk 0
  have c1 := blk_cell T4.blk 1
  have c2 := blk_lt T4.blk
  simp at c0 c1
  clear T4
  go_wp2_with fail
  go_quiet (fail)
  go_wp2
  go_ret
  exact ⟨rfl, (k4.alloc _).drewN _⟩

def DoublePost (B nb : Nat) (room sent : Int) (N : List HE) (x : HE) (S : Nat → Prop) (w : World) (e : Ending) (w' : World) : Prop :=
  ∃ a cap g, e = .returned (.bool true) ∧ Net w' B nb a cap room sent (N ++ [⟨x.f, x.t, some ⟨g, 0, none⟩, x.l.length, x.tn, x.l⟩]) ∧ Keep S w w'

set_option maxHeartbeats 4000000 in
theorem double_ok (B nb : Nat) (a : Option Addr) (cap : Nat) (room sent : Int) (N : List HE) (i : Nat) (x : HE) (w : World) (T : Net w B nb a cap room sent N) (hB : B ≤ w.heap.size) (hx : N[i]? = some x) (hr : ¬ room ≤ N.length) (hN : N.length ≤ 1000000) :
    Calls Try.prog 15 #[.pointer (some ⟨nb, 0, none⟩), .int .i64 i] w (DoublePost B nb room sent N x (SN nb (.slice a N.length cap)) w) := by
  have hi := (List.getElem?_eq_some_iff.1 hx).1
  have hxl := (T.each x (List.mem_of_getElem? hx)).2
  have hroom := T.row.room.2
  unfold maxLen at hroom
  obtain ⟨hroom1, hroom2⟩ := hroom
  have HT := Lib.hid T
  have Hx := Lib.hid hx
  clear T hx
  obtain ⟨xf, xt, xa, xc, xn, xl⟩ := x
  have hd : decide (room ≤ (N.length : Int)) = false := by simpa using hr
  simp only at hxl
  go_enter Try.func15, Try.ntmps15
  go_wp2_with fail
  refine (look_in B nb a cap room sent N i _ _ (HT.out.keep0 (by (repeat (with_reducible first | exact Keep.refl _ _ | assumption | refine Keep.alloc ?_ _ | refine Keep.drewN ?_ _ | refine Keep.drew ?_ | refine Keep.setCell ?_ (by first | (left; simp; done) | (left; simp; omega) | (right; simp [NoB, OneB, TwoB]; done)) _)))) Hx.out).mono ?_
  rintro _ w4 ⟨g4, rfl, hg4, R4, k4⟩
  have T4 := HT.out.keep0 k4
  have c0 := blk_cell T4.blk 0
  have c1 := blk_cell T4.blk 1
  have c2 := blk_lt T4.blk
  simp at c0 c1
  clear T4
  go_wp2_with fail
  go_quiet (fail)
  go_wp2_with fail
  generalize hV : World.drewN _ nq = V
  have KV : Keep NoB w V := by rw [← hV]; exact (k4.alloc _).drewN _
  have RV : Row V w.heap.size 5 1 cU (.slice (some ⟨g4, 0, none⟩) xl.length xl.length) xl := by rw [← hV]; exact (R4.alloc _).keep ((Keep.refl NoB _).drewN nq) (fun _ _ h => h)
  have bp : V.heap[w4.heap.size]? = some (.cells #[.int .i64 xf, .int .i64 xt, .slice (some ⟨g4, 0, none⟩) xl.length xl.length] 32) := by rw [← hV]; exact blk_new w4 _
  have hpb : w.heap.size ≤ w4.heap.size := k4.size
  clear hV c0 c1 c2 k4 R4
  generalize w4.heap.size = pb at bp hpb ⊢
  have TV := HT.out.keep0 KV
  obtain ⟨g, cc, hvv, hg1, hg2, hcx⟩ := TV.row.cells hCells_len Hx.out
  cases hvv
  have m3 := hcx 3 _ rfl
  simp only at m3
  have e1 := blk_cell TV.blk 1
  have e2 := blk_free TV.blk 1
  have e3 := blk_lt TV.blk
  have p0 := blk_cell bp 0
  have p1 := blk_cell bp 1
  have p2 := blk_cell bp 2
  have p3 := blk_lt bp
  have sV : B ≤ V.heap.size := Nat.le_trans hB KV.size
  have HTV := Lib.hid TV
  have Hbp := Lib.hid bp
  have HRV := Lib.hid RV
  simp at e1 p0 p1 p2
  clear TV bp RV hcx
  have f1 : (0 : Int) ≤ (i : Int) := by omega
  have f2 : (i : Int) < (N.length : Int) := by omega
  refine wp_region_plan (fun u => u.cell? ⟨nb, 1, none⟩ = some (.slice (some ⟨g, 0, none⟩) N.length cap) ∧ u.cell? ⟨pb, 0, none⟩ = some (.int .i64 xf) ∧ u.cell? ⟨pb, 1, none⟩ = some (.int .i64 xt) ∧ u.cell? ⟨pb, 2, none⟩ = some (.slice (some ⟨g4, 0, none⟩) xl.length xl.length) ∧ u.cell? ⟨g, i * 4 + 3, none⟩ = some (.bool xn)) [17, 18, 19] [(true, 0), (true, 1), (true, 2), (true, 3), (true, 4), (true, 5), (true, 6), (true, 7), (true, 8), (true, 9), (true, 10), (true, 11), (true, 12), (true, 13), (true, 14), (false, 15), (false, 16), (false, 17), (false, 18), (false, 19)] (by kernel_rfl) (by kernel_rfl) (by kernel_rfl) (by kernel_rfl) (by intro c b d v u h; cases d <;> exact h) ?_
  have hS : V.drew.cell? ⟨nb, 1, none⟩ = some (.slice (some ⟨g, 0, none⟩) N.length cap) ∧ V.drew.cell? ⟨pb, 0, none⟩ = some (.int .i64 xf) ∧ V.drew.cell? ⟨pb, 1, none⟩ = some (.int .i64 xt) ∧ V.drew.cell? ⟨pb, 2, none⟩ = some (.slice (some ⟨g4, 0, none⟩) xl.length xl.length) ∧ V.drew.cell? ⟨g, i * 4 + 3, none⟩ = some (.bool xn) := ⟨e1, p0, p1, p2, m3⟩
  have HS := Lib.hid hS
  clear hS e1 p0 p1 p2 m3
  refine plan_get (i := 0) rfl rfl HS.out rfl (fun u hu => by (try dsimp only at hu); go_simp; rfl) (by simp only [List.setIfInBounds_toArray, List.set_cons_succ, List.set_cons_zero]; rfl) ?_
  refine plan_get (i := 1) rfl rfl HS.out rfl (fun u hu => by (try dsimp only at hu); go_simp; rfl) (by simp only [List.setIfInBounds_toArray, List.set_cons_succ, List.set_cons_zero]; rfl) ?_
  refine plan_get (i := 2) rfl rfl HS.out rfl (fun u hu => by (try dsimp only at hu); go_simp; rfl) (by simp only [List.setIfInBounds_toArray, List.set_cons_succ, List.set_cons_zero]; rfl) ?_
  refine plan_get (i := 3) rfl rfl HS.out rfl (fun u hu => by (try dsimp only at hu); go_simp; rfl) (by simp only [List.setIfInBounds_toArray, List.set_cons_succ, List.set_cons_zero]; rfl) ?_
  refine plan_get (i := 4) rfl rfl HS.out rfl (fun u hu => by (try dsimp only at hu); go_simp; rfl) (by simp only [List.setIfInBounds_toArray, List.set_cons_succ, List.set_cons_zero]; rfl) ?_
  refine plan_get (i := 5) rfl rfl HS.out rfl (fun u hu => by (try dsimp only at hu); go_simp; rfl) (by simp only [List.setIfInBounds_toArray, List.set_cons_succ, List.set_cons_zero]; rfl) ?_
  refine plan_get (i := 6) rfl rfl HS.out rfl (fun u hu => by (try dsimp only at hu); go_simp; rfl) (by simp only [List.setIfInBounds_toArray, List.set_cons_succ, List.set_cons_zero]; rfl) ?_
  refine plan_get (i := 7) rfl rfl HS.out rfl (fun u hu => by (try dsimp only at hu); go_simp; rfl) (by simp only [List.setIfInBounds_toArray, List.set_cons_succ, List.set_cons_zero]; rfl) ?_
  refine plan_get (i := 8) rfl rfl HS.out rfl (fun u hu => by (try dsimp only at hu); go_simp; rfl) (by simp only [List.setIfInBounds_toArray, List.set_cons_succ, List.set_cons_zero]; rfl) ?_
  refine plan_get (i := 9) rfl rfl HS.out rfl (fun u hu => by (try dsimp only at hu); go_simp; rfl) (by simp only [List.setIfInBounds_toArray, List.set_cons_succ, List.set_cons_zero]; rfl) ?_
  refine plan_get (i := 10) rfl rfl HS.out rfl (fun u hu => by (try dsimp only at hu); go_simp; rfl) (by simp only [List.setIfInBounds_toArray, List.set_cons_succ, List.set_cons_zero]; rfl) ?_
  refine plan_get (i := 11) rfl rfl HS.out rfl (fun u hu => by (try dsimp only at hu); go_simp; rfl) (by simp only [List.setIfInBounds_toArray, List.set_cons_succ, List.set_cons_zero]; rfl) ?_
  refine plan_get (i := 12) rfl rfl HS.out rfl (fun u hu => by (try dsimp only at hu); go_simp; rfl) (by simp only [List.setIfInBounds_toArray, List.set_cons_succ, List.set_cons_zero]; rfl) ?_
  refine plan_get (i := 13) rfl rfl HS.out rfl (fun u hu => by (try dsimp only at hu); go_simp; rfl) (by simp only [List.setIfInBounds_toArray, List.set_cons_succ, List.set_cons_zero]; rfl) ?_
  refine plan_get (i := 14) rfl rfl HS.out rfl (fun u hu => by (try dsimp only at hu); go_simp; rfl) (by simp only [List.setIfInBounds_toArray, List.set_cons_succ, List.set_cons_zero]; rfl) ?_
  refine plan_one (i := 15) rfl ?_
  go_wp2_with (fail)
  obtain ⟨N', hN'⟩ : ∃ l', N ++ [⟨xf, xt, some ⟨g4, 0, none⟩, xl.length, xn, xl⟩] = l' := ⟨_, rfl⟩
  have HN' := Lib.hid hN'
  clear hN'
  generalize hZ : World.drew (World.alloc V (.cells #[.int .i64 xf, .int .i64 xt, .slice (some ⟨g4, 0, none⟩) xl.length xl.length, .bool xn] 70)) = Z
  have KZ : Keep NoB V Z := by rw [← hZ]; exact ((Keep.refl NoB V).alloc _).drew
  have bZ : Z.heap[V.heap.size]? = some (.cells #[.int .i64 xf, .int .i64 xt, .slice (some ⟨g4, 0, none⟩) xl.length xl.length, .bool xn] 70) := by rw [← hZ]; exact blk_new V _
  clear hZ
  have HS2 := HS.out
  have hSZ : Z.cell? ⟨nb, 1, none⟩ = some (.slice (some ⟨g, 0, none⟩) N.length cap) ∧ Z.cell? ⟨pb, 0, none⟩ = some (.int .i64 xf) ∧ Z.cell? ⟨pb, 1, none⟩ = some (.int .i64 xt) ∧ Z.cell? ⟨pb, 2, none⟩ = some (.slice (some ⟨g4, 0, none⟩) xl.length xl.length) ∧ Z.cell? ⟨g, i * 4 + 3, none⟩ = some (.bool xn) :=
    ⟨KZ.some HS2.1 (fun h => h), KZ.some HS2.2.1 (fun h => h), KZ.some HS2.2.2.1 (fun h => h), KZ.some HS2.2.2.2.1 (fun h => h), KZ.some HS2.2.2.2.2 (fun h => h)⟩
  have HSZ := Lib.hid hSZ
  clear HS2 hSZ
  refine after_next (fun _ => HSZ.out) ?_
  have TZ := HTV.out.keep0 KZ
  have HTZ := Lib.hid TZ
  have sZ := KZ.size
  clear TZ
  refine plan_one (i := 16) rfl ?_
  go_wp2_with ((refine wpList_row_one' rfl (.tmp 31) (.tmp 42) 60 rfl Try.underlying60 info70' (by kernel_rfl) (by decide) (by decide) rfl HTZ.out.row hCells_len ⟨xf, xt, some ⟨g4, 0, none⟩, xl.length, xn, xl⟩ rfl bZ rfl (hCells_one _) (by omega) (by omega) HN'.out ?_; intro a5 cc5 w5 R5 k5 o5))
  replace k5 : Keep (fun k => (Value.slice (some ⟨g, 0, none⟩) N.length cap).ownBlock = some k) Z w5 := k5
  have hgn := HTZ.out.row.ne HTZ.out.blk (by decide) g rfl
  have hgp := HTV.out.row.ne Hbp.out (by decide) g rfl
  have b5 := blk_keep HTZ.out.blk k5 (fun e => hgn (Option.some.inj e))
  have z1 := blk_cell b5 1
  have z2 := blk_free b5 1
  have z3 := blk_lt b5
  have Hb5 := Lib.hid b5
  simp at z1
  clear b5
  have hS5 : w5.cell? ⟨nb, 1, none⟩ = some (.slice (some ⟨g, 0, none⟩) N.length cap) ∧ w5.cell? ⟨pb, 0, none⟩ = some (.int .i64 xf) ∧ w5.cell? ⟨pb, 1, none⟩ = some (.int .i64 xt) ∧ w5.cell? ⟨pb, 2, none⟩ = some (.slice (some ⟨g4, 0, none⟩) xl.length xl.length) ∧ w5.cell? ⟨g, i * 4 + 3, none⟩ = some (.bool xn) := by
    have h := HSZ.out
    refine ⟨k5.some h.1 (fun e => hgn (Option.some.inj e)), k5.some h.2.1 (fun e => hgp (Option.some.inj e)), k5.some h.2.2.1 (fun e => hgp (Option.some.inj e)), k5.some h.2.2.2.1 (fun e => hgp (Option.some.inj e)), ?_⟩
    exact (o5 g N.length cap _ rfl (by omega)).trans h.2.2.2.2
  have HS5 := Lib.hid hS5
  clear hS5 o5
  refine after_next (fun _ => HS5.out) ?_
  refine plan_one (i := 17) rfl ?_
  go_wp2_with (fail)
  refine after_next (fun h => by cases h) ?_
  refine plan_one (i := 18) rfl ?_
  go_wp2_with (fail)
  refine after_next (fun h => by cases h) ?_
  refine plan_one (i := 19) rfl ?_
  go_wp2_with (fail)
  refine after_next (fun h => by cases h) ?_
  refine plan_done ?_
  have K6 : Keep (OneB nb) w5 (w5.setCell ⟨nb, 1, none⟩ (.slice a5 N'.length cc5)) := Keep.setCell (S := OneB nb) (p := ⟨nb, 1, none⟩) (Keep.refl _ w5) (Or.inr rfl) _
  have b6 := blk_setCell (i := 1) Hb5.out (.slice a5 N'.length cc5)
  have KS : Keep (SN nb (.slice (some ⟨g, 0, none⟩) N.length cap)) w (w5.setCell ⟨nb, 1, none⟩ (.slice a5 N'.length cc5)) := (((KV.trans KZ).none.trans' k5 (fun j _ e => Or.inr e))).trans' K6 (fun j _ e => Or.inl e)
  have N6 : Net (w5.setCell ⟨nb, 1, none⟩ (.slice a5 N'.length cc5)) B nb a5 cc5 room sent N' := by
    refine ⟨by simpa using b6, R5.keep K6 (fun j hj e => R5.ne Hb5.out (by decide) j hj e), ?_, ?_⟩
    · intro y hy
      rw [← HN'.out] at hy
      rcases List.mem_append.1 hy with hy | hy
      · have hr := HTZ.out.each y hy
        exact ⟨(hr.1.keep k5 (fun j hj e => (HTZ.out.ne1 hy j hj).2 e)).keep K6 (fun j hj e => (HTZ.out.ne1 hy j hj).1 e), hr.2⟩
      · simp at hy
        subst hy
        refine ⟨((((HRV.out.mono hB).keep KZ (fun _ _ h => h)).keep k5 (fun j hj e => ?_)).keep K6 (fun j hj e => ?_)), hxl⟩
        · have h1 : g4 = j := Option.some.inj hj
          have h2 : g = j := Option.some.inj e
          have := HRV.out.fresh g4 rfl
          have := HT.out.row.lt
          have hg3 := HT.out.row.lt g rfl
          omega
        · have h1 : g4 = j := Option.some.inj hj
          have h2 : j = nb := e
          have := HRV.out.fresh g4 rfl
          have := blk_lt HT.out.blk
          omega
    · rw [← HN'.out, List.pairwise_append]
      refine ⟨HT.out.apart, by simp, ?_⟩
      intro y hy z hz j hj e
      simp at hz
      subst hz
      have h1 : g4 = j := Option.some.inj e
      have := (HT.out.each y hy).1.lt j hj
      have := HRV.out.fresh g4 rfl
      omega
  generalize World.setCell w5 ⟨nb, 1, none⟩ (.slice a5 N'.length cc5) = w6 at KS N6 ⊢
  go_wp2
  go_ret
  refine ⟨a5, cc5, g4, rfl, ?_, KS⟩
  rw [HN'.out]
  exact N6
end Go.Proofs.Ytbaojfjabhgohaa
