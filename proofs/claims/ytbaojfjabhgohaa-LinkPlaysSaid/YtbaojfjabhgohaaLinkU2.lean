/- Send of package link, with the place of the new bytes told. -/
import Derived.Test.YtbaojfjabhgohaaLinkA
namespace Go.Proofs.Ytbaojfjabhgohaa
open Go Go.RowKit Go.Maps


def SendPost2 (B nb : Nat) (room sent : Int) (N : List HE) (f t : Int) (l : List UInt8) (S : Nat → Prop) (w : World) (e : Ending) (w' : World) : Prop :=
  ∃ a cap g, e = .returned (.bool true) ∧ w.heap.size ≤ g ∧ Net w' B nb a cap room (sent + 1) (N ++ [⟨f, t, some ⟨g, 0, none⟩, l.length, false, l⟩]) ∧ Keep S w w'



set_option maxHeartbeats 4000000 in
theorem send_ok2 (B nb : Nat) (a : Option Addr) (cap : Nat) (room sent : Int) (N : List HE) (f t : Int) (v : Value) (l : List UInt8) (w : World) (T : Net w B nb a cap room sent N) (hB : B ≤ w.heap.size) (hv : Rd w v l) (hl : l.length ≤ 1000000)
    (hr : ¬ room ≤ N.length) (hN : N.length ≤ 1000000) (hs : 0 ≤ sent) (hs2 : sent < 9223372036854775807) :
    Calls Try.prog 9 #[.pointer (some ⟨nb, 0, none⟩), .int .i64 f, .int .i64 t, v] w (SendPost2 B nb room sent N f t l (SN nb (.slice a N.length cap)) w) := by
  have c0 := blk_cell T.blk 0
  have c1 := blk_cell T.blk 1
  have c2 := blk_cell T.blk 2
  have hlt := blk_lt T.blk
  have HT := Lib.hid T
  have Hblk := Lib.hid T.blk
  clear T
  simp at c0 c1 c2
  obtain ⟨va, vc, hv1, hv2, hv3⟩ := id hv
  subst hv1
  have hd : decide (room ≤ (N.length : Int)) = false := by simpa using hr
  have HV := Lib.hid hv
  clear hv hv3
  go_enter Try.func9, Try.ntmps9
  go_wp2_with fail
  go_quiet (fail)
  go_wp2_with fail
  generalize hW : World.drewN w nq = W
  have kW : Keep NoB w W := by rw [← hW]; exact (Keep.refl _ w).drewN nq
  clear hW
  have TW := HT.out.keep0 kW
  have bW := TW.blk
  have e1 := blk_cell bW 1
  have hltW := blk_lt bW
  have sW : B ≤ W.heap.size := Nat.le_trans hB kW.size
  have HTW := Lib.hid TW
  have HbW := Lib.hid bW
  clear bW TW c0 c1 c2
  simp at e1
  refine wp_region_plan (fun u => u.cell? ⟨nb, 1, none⟩ = some (.slice a N.length cap)) [13, 14, 15] [(true, 0), (true, 1), (true, 2), (true, 3), (true, 4), (true, 5), (true, 6), (true, 7), (true, 8), (false, 9), (false, 10), (false, 11), (false, 12), (false, 13), (false, 14), (false, 15)] (by kernel_rfl) (by kernel_rfl) (by kernel_rfl) (by kernel_rfl) (by intro c b d v u h; cases d <;> exact h) ?_
  have e1' : W.drew.cell? ⟨nb, 1, none⟩ = some (.slice a N.length cap) := e1
  refine plan_read (i := 0) rfl e1' rfl (fun u hu => by (try dsimp only at hu); go_simp; rfl) ?_
  refine plan_read (i := 1) rfl e1' rfl (fun u hu => by (try dsimp only at hu); go_simp; rfl) ?_
  refine plan_read (i := 2) rfl e1' rfl (fun u hu => by (try dsimp only at hu); go_simp; rfl) ?_
  refine plan_read (i := 3) rfl e1' rfl (fun u hu => by (try dsimp only at hu); go_simp; rfl) ?_
  refine plan_read (i := 4) rfl e1' rfl (fun u hu => by (try dsimp only at hu); go_simp; rfl) ?_
  refine plan_read (i := 5) rfl e1' rfl (fun u hu => by (try dsimp only at hu); go_simp; rfl) ?_
  refine plan_read (i := 6) rfl e1' rfl (fun u hu => by (try dsimp only at hu); go_simp; rfl) ?_
  refine plan_read (i := 7) rfl e1' rfl (fun u hu => by (try dsimp only at hu); go_simp; rfl) ?_
  refine plan_read (i := 8) rfl e1' rfl (fun u hu => by (try dsimp only at hu); go_simp; rfl) ?_
  refine plan_one (i := 9) rfl ?_
  go_wp2_with (go_at_call 26; refine (fresh_any f t _ l _ (HV.out.keep (S := NoB) (kW.trans (by (repeat (with_reducible first | exact Keep.refl _ _ | assumption | refine Keep.alloc ?_ _ | refine Keep.drewN ?_ _ | refine Keep.drew ?_ | refine Keep.setCell ?_ (by first | (left; simp; done) | (left; simp; omega) | (right; simp [NoB, OneB, TwoB]; done)) _)))) (fun _ _ _ _ h => h)) hl).mono ?_; rintro _ w4 ⟨g4, rfl, hg4, R4, k4⟩)
  have K4 : Keep NoB W w4 := (Keep.refl NoB W).drew.trans k4
  have y1 := K4.some e1 (fun h => h)
  have b4 := blk_keep HbW.out K4 (fun h => h)
  have s4 := K4.size
  have Hb4 := Lib.hid b4
  clear b4 e1 e1'
  refine after_next (fun _ => y1) ?_
  refine plan_one (i := 10) rfl ?_
  go_wp2_with (fail)
  refine after_next (fun _ => y1) ?_
  refine plan_one (i := 11) rfl ?_
  go_wp2_with (fail)
  have y1' : (World.alloc w4 (.cells #[.int .i64 f, .int .i64 t, .slice (some ⟨g4, 0, none⟩) l.length l.length, .bool false] 70)).cell? ⟨nb, 1, none⟩ = some (.slice a N.length cap) := Keep.some ((Keep.refl NoB w4).alloc _) y1 (fun h => h)
  refine after_next (fun _ => y1') ?_
  obtain ⟨N', hN'⟩ : ∃ l', N ++ [⟨f, t, some ⟨g4, 0, none⟩, l.length, false, l⟩] = l' := ⟨_, rfl⟩
  have HN' := Lib.hid hN'
  clear hN'
  refine plan_one (i := 12) rfl ?_
  go_wp2_with ((refine wpList_row_one rfl (.tmp 27) (.tmp 34) 60 rfl Try.underlying60 info70' (by kernel_rfl) (by decide) (by decide) rfl (((HTW.out.keep0 K4).keep0 ((Keep.refl NoB w4).alloc _)).row) hCells_len ⟨f, t, some ⟨g4, 0, none⟩, l.length, false, l⟩ rfl (blk_new w4 _) rfl (hCells_one _) (by omega) (by simp; omega) HN'.out ?_; intro a5 q5 w5 R5 k5))
  replace k5 : Keep (fun k => (Value.slice a N.length cap).ownBlock = some k) _ w5 := k5
  have b5 := blk_keep (blk_alloc Hb4.out) k5 (fun e => HTW.out.row.ne HbW.out (by decide) _ e rfl)
  have z1 := blk_cell b5 1
  have z2 := blk_free b5 1
  have z3 := blk_lt b5
  have Hb5 := Lib.hid b5
  have y5 := k5.some y1' (fun e => HTW.out.row.ne HbW.out (by decide) _ e rfl)
  clear b5
  simp at z1
  refine after_next (fun _ => y5) ?_
  refine plan_one (i := 13) rfl ?_
  go_wp2_with (fail)
  refine after_next (fun h => by cases h) ?_
  refine plan_one (i := 14) rfl ?_
  go_wp2_with (fail)
  refine after_next (fun h => by cases h) ?_
  refine plan_one (i := 15) rfl ?_
  go_wp2_with (fail)
  refine after_next (fun h => by cases h) ?_
  refine plan_done ?_
  have hb5 := blk_setCell (i := 1) Hb5.out (.slice a5 N'.length q5)
  have S5 : SN nb (.slice a N.length cap) nb := Or.inl rfl
  have KK : Keep (SN nb (.slice a N.length cap)) w (w5.setCell ⟨nb, 1, none⟩ (.slice a5 N'.length q5)) := Keep.setCell (S := SN nb (.slice a N.length cap)) (p := ⟨nb, 1, none⟩) ((((kW.trans K4).alloc _).none (S := SN nb (.slice a N.length cap))).trans' k5 (fun i _ e => Or.inr e)) (Or.inr S5) _
  have K5s : Keep (OneB nb) w5 (w5.setCell ⟨nb, 1, none⟩ (.slice a5 N'.length q5)) := Keep.setCell (S := OneB nb) (p := ⟨nb, 1, none⟩) (Keep.refl _ w5) (Or.inr rfl) _
  have R6 := R5.keep K5s (fun g hg e => R5.ne Hb5.out (by decide) g hg e)
  have old6 : ∀ x ∈ N, Row (w5.setCell ⟨nb, 1, none⟩ (.slice a5 N'.length q5)) B 5 1 cU x.v x.l ∧ x.l.length ≤ 1000000 := fun x hx =>
    ⟨((((HTW.out.each x hx).1.keep K4 (fun _ _ h => h)).alloc _).keep k5 (fun g hg e => (HTW.out.ne1 hx g hg).2 e)).keep K5s (fun g hg e => (HTW.out.ne1 hx g hg).1 e), (HTW.out.each x hx).2⟩
  have hgW : W.heap.size ≤ g4 := by simpa using hg4
  have new6 : Row (w5.setCell ⟨nb, 1, none⟩ (.slice a5 N'.length q5)) B 5 1 cU (.slice (some ⟨g4, 0, none⟩) l.length l.length) l :=
    ((((R4.mono (B' := B) (by simp; omega)).alloc _).keep k5 (fun g hg e => by have h1 : g4 = g := Option.some.inj hg; have := HTW.out.row.lt _ e; omega)).keep K5s (fun g hg e => by have h1 : g4 = g := Option.some.inj hg; have := blk_lt HbW.out; have e2 : g = nb := e; omega))
  have hlt5 := blk_lt hb5
  generalize World.setCell w5 ⟨nb, 1, none⟩ (.slice a5 N'.length q5) = w6 at hb5 KK K5s R6 old6 new6 hlt5 ⊢
  have n2 := blk_cell hb5 2
  have n3 := blk_free hb5 2
  have Hb6 := Lib.hid hb5
  have HO6 := Lib.hid old6
  simp at n2
  clear hb5 old6 z1 z2 z3 y5 y1 y1' R5 K5s
  go_wp2_with fail
  refine (add_any nb sent w6 n2 n3 hs hs2).mono ?_
  rintro _ _ ⟨rfl, rfl⟩
  go_wp2_with fail
  go_ret
  have K7 : Keep (OneB nb) w6 (w6.setCell ⟨nb, 2, none⟩ (.int .i64 (sent + 1))) := Keep.setCell (S := OneB nb) (p := ⟨nb, 2, none⟩) (Keep.refl _ w6) (Or.inr rfl) _
  have hb7 := blk_setCell (i := 2) Hb6.out (.int .i64 (sent + 1))
  refine ⟨a5, q5, g4, rfl, Nat.le_trans kW.size hgW, ?_, KK.trans (K7.mono (fun k e => Or.inl e))⟩
  rw [HN'.out]
  refine ⟨by simpa using hb7, R6.keep K7 (fun g hg e => R6.ne Hb6.out (by decide) g hg e), ?_, ?_⟩
  · intro x hx
    rw [← HN'.out] at hx
    rcases List.mem_append.1 hx with hx | hx
    · exact ⟨(HO6.out x hx).1.keep K7 (fun g hg e => (HO6.out x hx).1.ne Hb6.out (by decide) g hg e), (HO6.out x hx).2⟩
    · simp at hx
      subst hx
      exact ⟨new6.keep K7 (fun g hg e => new6.ne Hb6.out (by decide) g hg e), hl⟩
  · rw [← HN'.out, List.pairwise_append]
    refine ⟨HT.out.apart, by simp, ?_⟩
    intro x hx y hy g hg e
    simp at hy
    subst hy
    have h1 : g4 = g := Option.some.inj e
    have := (HTW.out.each x hx).1.lt g hg
    omega
end Go.Proofs.Ytbaojfjabhgohaa
