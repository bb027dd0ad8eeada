/- What the reference's Grant of a new lease comes to. -/
import Derived.Test.YtmndmgfianhbpaaLeaseS
import Derived.Deep.RegionLaw
namespace Go.Proofs.Ytmndmgfianhbpaa
open Go Go.RowKit Go.Maps


set_option maxHeartbeats 4000000 in
theorem rgrant_new (rb B : Nat) (a : Option Addr) (cap : Nat) (limit ticks now last : Int) (N : List RL) (s : ByteArray) (w : World) (T : RTab w B rb a cap limit ticks now last N) (hB : B ≤ w.heap.size) (hN : N.length ≤ 1000) (hl : ¬ limit ≤ N.length) (hx : N.find? (rhas s) = none)
    (ht : 0 ≤ ticks ∧ ticks ≤ 4611686018427387904) (hn : 0 ≤ now ∧ now < 4611686018427387904) (hla : 0 ≤ last ∧ last < 4611686018427387904) (N' : List RL) (hN' : N ++ [(s, last + 1, now + ticks)] = N') :
    Calls Try.prog 19 #[.pointer (some ⟨rb, 0, none⟩), .string s] w (RPost rb B (fun k => k = rb ∨ (Value.slice a N.length cap).ownBlock = some k) limit ticks now (last + 1) N' (.int .i64 (last + 1)) w) := by
  have HT := Lib.hid T
  have hi : rfind N s 0 = -1 := by
    rcases rfind_cases s N 0 with ⟨h1, h2, h3⟩ | ⟨i, y, h1, h2, h3, h4, h5⟩
    · exact h1
    · rw [h4] at hx; cases hx
  have c0 := blk_cell T.blk 0
  have c1 := blk_cell T.blk 1
  have c2 := blk_cell T.blk 2
  have c3 := blk_cell T.blk 3
  have c4 := blk_cell T.blk 4
  have f0 := blk_free T.blk 0
  have f3 := blk_free T.blk 3
  have f4 := blk_free T.blk 4
  have hlt := blk_lt T.blk
  have O := T.own
  have Hblk := Lib.hid T.blk
  clear T
  simp at c0 c1 c2 c3 c4
  have hd : decide (limit ≤ (N.length : Int)) = false := by simpa using hl
  go_enter Try.func19, Try.ntmps19
  go_wp2_with fail
  go_quiet ((go_at_call 26; exact Calls.quiet_of_same (find_any rb B a cap limit ticks now last N s _ (HT.out.keep ((Keep.refl NoB w).drewN _) (fun h => h) (fun _ _ h => h)) hN _ hi)))
  go_wp2_with fail
  have hbV := blk_setCell (i := 4) (b := rb) (w := World.drewN w nq) Hblk.out (.int .i64 (last + 1))
  generalize hV : World.setCell _ _ _ = V at hbV ⊢
  have kV : Keep (OneB rb) w V := by rw [← hV]; exact Keep.setCell ((Keep.refl (OneB rb) w).drewN nq) (p := ⟨rb, 4, none⟩) (Or.inr rfl) _
  have OV := O.keep kV (fun g hg e => O.ne Hblk.out (by decide) g hg e)
  clear hV c0 c1 c2 c3 c4 f0 f3 f4 O
  have e0 := blk_cell hbV 0
  have e2 := blk_cell hbV 2
  have e3 := blk_cell hbV 3
  have e4 := blk_cell hbV 4
  have g0 := blk_free hbV 0
  have g1 := blk_lt hbV
  have sV : w.heap.size ≤ V.heap.size := kV.size
  have HbV := Lib.hid hbV
  clear hbV
  simp at e0 e2 e3 e4
  have HN' := Lib.hid hN'
  clear hN'
  have hwr : IntKind.i64.wrap (now + ticks) = now + ticks := IntWalk.i64_in _ (by omega)
  go_region_law
    (first
      | (refine step_append_one rfl (.tmp 32) (.tmp 48) 47 rfl Try.underlying47 info66' (by kernel_rfl) (by decide) (by decide) rfl (OV.keep (((Keep.refl NoB V).drew).alloc _) (fun _ _ h => h)) rlCells_len (s, last + 1, now + ticks) rfl (blk_new (World.drew V) _) (by simp [rlCells]) (rlCells_one _) (by omega) (by simp; omega) HN'.out ?_; intro a4 q4 w4 O4 k4
         have b4 := blk_keep (blk_alloc (blk_drew HbV.out)) k4 (fun e => OV.ne HbV.out (by decide) _ e rfl)
         have y0 := blk_cell b4 0
         have y2 := blk_cell b4 2
         have y3 := blk_cell b4 3
         have y4 := blk_cell b4 4
         have y5 := blk_free b4 0
         have y6 := blk_lt b4
         have Hb4 := Lib.hid b4
         clear b4
         simp at y0 y2 y3 y4))
  all_goals
    go_wp2
    go_ret
    refine ⟨rfl, ⟨a4, q4, ⟨?_, ?_⟩⟩, ?_⟩
    · have hb := blk_setCell (i := 0) Hb4.out (.slice a4 N'.length q4)
      simpa using hb
    · exact O4.keep (Keep.setCell (Keep.refl (OneB rb) w4) (p := ⟨rb, 0, none⟩) (Or.inr rfl) _) (fun g hg e => O4.ne Hb4.out (by decide) g hg e)
    · exact (((kV.mono (fun k e => Or.inl e)).drew.alloc _).trans' k4 (fun k _ e => Or.inr e)).setCell (p := ⟨rb, 0, none⟩) (Or.inr (Or.inl rfl)) _
end Go.Proofs.Ytmndmgfianhbpaa
