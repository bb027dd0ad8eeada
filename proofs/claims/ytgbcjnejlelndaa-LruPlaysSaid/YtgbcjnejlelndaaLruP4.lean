/- The reference's cache: Way. -/
import Derived.Test.YtgbcjnejlelndaaLruP3
namespace Go.Proofs.Ytgbcjnejlelndaa
open Go Go.RowKit Go.Maps

/-- The keys of what goes: of the things from j on, the last one first. -/
def goneR (N : List T3) (j : Nat) : List ByteArray := (N.drop j).reverse.map (·.1)
theorem goneR_snoc {N : List T3} {j : Nat} {x : T3} (h : N[j]? = some x) : goneR N (j + 1) ++ [x.1] = goneR N j := by
  obtain ⟨hj, rfl⟩ := List.getElem?_eq_some_iff.1 h
  unfold goneR
  rw [List.drop_eq_getElem_cons hj, List.reverse_cons, List.map_append]
  rfl
theorem goneR_len (N : List T3) (j : Nat) : (goneR N j).length = N.length - j := by simp [goneR]

def RWayPost (rb B : Nat) (room kept : Int) (gone : List ByteArray) (N : List T3) (w : World) (e : Ending) (w' : World) : Prop :=
  ∃ a c, e = .returned (.slice a gone.length c) ∧ Own w' w.heap.size 9 1 cS (.slice a gone.length c) gone ∧ (∃ a' cap', RC w' B rb a' cap' room kept N) ∧ Keep (OneB rb) w w'

structure WY (w wr : World) (B rb : Nat) (room kept : Int) (N : List T3) (j : Nat) (o : Value) : Prop where
  st : ∃ a c a' cap', o = .slice a (goneR N j).length c ∧ Own wr w.heap.size 9 1 cS (.slice a (goneR N j).length c) (goneR N j) ∧ RC wr B rb a' cap' room kept (N.take j)
  hk : Keep (OneB rb) w wr

set_option maxRecDepth 100000 in
set_option maxHeartbeats 8000000 in
theorem rway_any (rb B : Nat) (a : Option Addr) (cap : Nat) (room kept n : Int) (N : List T3) (w : World) (T : RC w B rb a cap room kept N) (hB : B ≤ w.heap.size) (hN : N.length ≤ 100000) (h0 : 0 ≤ kept) (hs : ∀ x ∈ N, 0 ≤ x.2.1) (hb : kept + sum3 N ≤ 9223372036854775807) (hn : 0 ≤ n) (hr0 : 0 ≤ room) (hr1 : room ≤ 9223372036854775807) (hnr : n ≤ room - kept)
    (j0 : Nat) (hj0 : j0 ≤ N.length) (hup : ∀ j, j0 < j → j ≤ N.length → room - n < kept + sum3 (N.take j)) (hfit : j0 = 0 ∨ kept + sum3 (N.take j0) ≤ room - n) :
    Calls Try.prog 33 #[.pointer (some ⟨rb, 0, none⟩), .int .i64 n] w (RWayPost rb B room kept (goneR N j0) (N.take j0) w) := by
  have HT := Lib.hid T
  have Hs := Lib.hid hs
  have Hup := Lib.hid hup
  have Hfit := Lib.hid hfit
  have hrw := blk_lt T.blk
  have O0 := Own.empty w (Nat.le_refl _) 9 1 cS
  have hg0 : goneR N N.length = [] := by simp [goneR]
  have HWY := Lib.hid (show WY w (w.alloc (.cells #[] 9)) B rb room kept N N.length (.slice (some ⟨w.heap.size, 0, none⟩) 0 0) from ⟨⟨_, 0, a, cap, by rw [hg0]; rfl, by rw [hg0]; exact O0, by rw [List.take_length]; exact T.keep0 ((Keep.refl NoB w).alloc _)⟩, ((Keep.refl NoB w).alloc _).none⟩)
  have hwrn : IntKind.i64.wrap (room - n) = room - n := by rw [IntKind.wrap_i64]; omega
  clear T hs hup hfit O0 hg0
  go_enter Try.func33, Try.ntmps33
  go_wp2_with fail
  go_loopw [5] (fun o wr => ∃ j : Nat, j0 ≤ j ∧ j ≤ N.length ∧ WY w wr B rb room kept N j o ∧ lenOf o = N.length - j) (fun o _ => N.length - lenOf o)
  case atStart => exact ⟨N.length, hj0, Nat.le_refl _, HWY.out, by simp [lenOf]⟩
  case round =>
    clear HWY
    obtain ⟨j, hj1, hj2, ⟨⟨ga, gc, ra, rcap, rfl, OG, R⟩, kr⟩, hlo⟩ := hrel
    have HOG := Lib.hid OG
    have HR := Lib.hid R
    have Hkr := Lib.hid kr
    have hjl : (N.take j).length = j := by rw [List.length_take]; omega
    have c0 := blk_cell R.blk 0
    have c1 := blk_cell R.blk 1
    have hlt := blk_lt R.blk
    rw [hjl] at c0
    simp at c0 c1
    have hst := sum3_take Hs.out j
    have hss := kr.size
    clear OG R kr
    by_cases hjz : j = 0
    · subst hjz
      obtain rfl : j0 = 0 := by omega
      go_wp2_with fail
      go_quiet (fail)
      have kq : Keep NoB wr (wr.drewN nq) := (Keep.refl NoB wr).drewN nq
      go_wp2
      go_ret
      exact ⟨ga, gc, rfl, HOG.out.keep kq (fun _ _ h => h), ⟨ra, rcap, HR.out.keep0 kq⟩, Hkr.out.trans kq.none⟩
    · obtain ⟨u, hu⟩ : ∃ u, kept + sum3 (N.take j) = u := ⟨_, rfl⟩
      have Hu := Lib.hid hu
      obtain ⟨b, hbd⟩ : ∃ b, decide (room - n < u) = b := ⟨_, rfl⟩
      have hcase : (b = false ∧ j = j0) ∨ (b = true ∧ j0 < j) := by
        by_cases hjj : j = j0
        · left
          refine ⟨?_, hjj⟩
          rw [← hbd]
          refine decide_eq_false ?_
          rcases Hfit.out with h | h
          · omega
          · rw [← hjj, hu] at h; omega
        · right
          refine ⟨?_, by omega⟩
          rw [← hbd]
          have := Hup.out j (by omega) hj2
          rw [hu] at this
          exact decide_eq_true this
      have hjp : decide (0 < j) = true := by simp; omega
      go_wp2_with fail
      refine wp_region_pl (fun q => q.cell? ⟨rb, 0, none⟩ = some (.slice ra j rcap) ∧ q.cell? ⟨rb, 1, none⟩ = some (.int .i64 room)) [] (.rd 0 (.rd 1 (.rd 2 (.rd 3 (.rd 4 (.rd 5 (.rd 6 (.rd 7 (.rd 9 (.rd 10 (.rd 11 (.rd 12 (.rd 13 (.rd 14 (.one 8 (.rd 15 (.rd 16 .done))))))))))))))))) (by kernel_rfl) (by kernel_rfl) (by kernel_rfl) (by kernel_rfl) (by intro c b d v u h; cases d <;> exact h) ?_
      have kd0 : Keep NoB wr wr.drew := (Keep.refl NoB wr).drew
      have HS0 := Lib.hid (ks2 ⟨c0, c1⟩ kd0)
      have HR0 := Lib.hid (HR.out.keep0 kd0)
      have HOG0 := Lib.hid (HOG.out.keep kd0 (fun _ _ h => h))
      have HK0 := Lib.hid (Hkr.out.trans kd0.none)
      clear c0 c1 kd0
      first
        | refine pl_get (i := 0) rfl rfl HS0.out rfl (fun u hu => by (try dsimp only at hu); go_simp; rfl) (by simp only [List.setIfInBounds_toArray, List.set_cons_succ, List.set_cons_zero]; rfl) ?_
        | refine pl_skip (i := 0) rfl rfl HS0.out rfl (by simp only [List.setIfInBounds_toArray, List.set_cons_succ, List.set_cons_zero]; rfl) ?_
      first
        | refine pl_get (i := 1) rfl rfl HS0.out rfl (fun u hu => by (try dsimp only at hu); go_simp; rfl) (by simp only [List.setIfInBounds_toArray, List.set_cons_succ, List.set_cons_zero]; rfl) ?_
        | refine pl_skip (i := 1) rfl rfl HS0.out rfl (by simp only [List.setIfInBounds_toArray, List.set_cons_succ, List.set_cons_zero]; rfl) ?_
      first
        | refine pl_get (i := 2) rfl rfl HS0.out rfl (fun u hu => by (try dsimp only at hu); go_simp; rfl) (by simp only [List.setIfInBounds_toArray, List.set_cons_succ, List.set_cons_zero]; rfl) ?_
        | refine pl_skip (i := 2) rfl rfl HS0.out rfl (by simp only [List.setIfInBounds_toArray, List.set_cons_succ, List.set_cons_zero]; rfl) ?_
      first
        | refine pl_get (i := 3) rfl rfl HS0.out rfl (fun u hu => by (try dsimp only at hu); go_simp; rfl) (by simp only [List.setIfInBounds_toArray, List.set_cons_succ, List.set_cons_zero]; rfl) ?_
        | refine pl_skip (i := 3) rfl rfl HS0.out rfl (by simp only [List.setIfInBounds_toArray, List.set_cons_succ, List.set_cons_zero]; rfl) ?_
      first
        | refine pl_get (i := 4) rfl rfl HS0.out rfl (fun u hu => by (try dsimp only at hu); go_simp; rfl) (by simp only [List.setIfInBounds_toArray, List.set_cons_succ, List.set_cons_zero]; rfl) ?_
        | refine pl_skip (i := 4) rfl rfl HS0.out rfl (by simp only [List.setIfInBounds_toArray, List.set_cons_succ, List.set_cons_zero]; rfl) ?_
      first
        | refine pl_get (i := 5) rfl rfl HS0.out rfl (fun u hu => by (try dsimp only at hu); go_simp; rfl) (by simp only [List.setIfInBounds_toArray, List.set_cons_succ, List.set_cons_zero]; rfl) ?_
        | refine pl_skip (i := 5) rfl rfl HS0.out rfl (by simp only [List.setIfInBounds_toArray, List.set_cons_succ, List.set_cons_zero]; rfl) ?_
      first
        | refine pl_get (i := 6) rfl rfl HS0.out rfl (fun u hu => by (try dsimp only at hu); go_simp; rfl) (by simp only [List.setIfInBounds_toArray, List.set_cons_succ, List.set_cons_zero]; rfl) ?_
        | refine pl_skip (i := 6) rfl rfl HS0.out rfl (by simp only [List.setIfInBounds_toArray, List.set_cons_succ, List.set_cons_zero]; rfl) ?_
      first
        | refine pl_get (i := 7) rfl rfl HS0.out rfl (fun u hu => by (try dsimp only at hu); go_simp; rfl) (by simp only [List.setIfInBounds_toArray, List.set_cons_succ, List.set_cons_zero]; rfl) ?_
        | refine pl_skip (i := 7) rfl rfl HS0.out rfl (by simp only [List.setIfInBounds_toArray, List.set_cons_succ, List.set_cons_zero]; rfl) ?_
      first
        | refine pl_get (i := 9) rfl rfl HS0.out rfl (fun u hu => by (try dsimp only at hu); go_simp; rfl) (by simp only [List.setIfInBounds_toArray, List.set_cons_succ, List.set_cons_zero]; rfl) ?_
        | refine pl_skip (i := 9) rfl rfl HS0.out rfl (by simp only [List.setIfInBounds_toArray, List.set_cons_succ, List.set_cons_zero]; rfl) ?_
      first
        | refine pl_get (i := 10) rfl rfl HS0.out rfl (fun u hu => by (try dsimp only at hu); go_simp; rfl) (by simp only [List.setIfInBounds_toArray, List.set_cons_succ, List.set_cons_zero]; rfl) ?_
        | refine pl_skip (i := 10) rfl rfl HS0.out rfl (by simp only [List.setIfInBounds_toArray, List.set_cons_succ, List.set_cons_zero]; rfl) ?_
      first
        | refine pl_get (i := 11) rfl rfl HS0.out rfl (fun u hu => by (try dsimp only at hu); go_simp; rfl) (by simp only [List.setIfInBounds_toArray, List.set_cons_succ, List.set_cons_zero]; rfl) ?_
        | refine pl_skip (i := 11) rfl rfl HS0.out rfl (by simp only [List.setIfInBounds_toArray, List.set_cons_succ, List.set_cons_zero]; rfl) ?_
      first
        | refine pl_get (i := 12) rfl rfl HS0.out rfl (fun u hu => by (try dsimp only at hu); go_simp; rfl) (by simp only [List.setIfInBounds_toArray, List.set_cons_succ, List.set_cons_zero]; rfl) ?_
        | refine pl_skip (i := 12) rfl rfl HS0.out rfl (by simp only [List.setIfInBounds_toArray, List.set_cons_succ, List.set_cons_zero]; rfl) ?_
      first
        | refine pl_get (i := 13) rfl rfl HS0.out rfl (fun u hu => by (try dsimp only at hu); go_simp; rfl) (by simp only [List.setIfInBounds_toArray, List.set_cons_succ, List.set_cons_zero]; rfl) ?_
        | refine pl_skip (i := 13) rfl rfl HS0.out rfl (by simp only [List.setIfInBounds_toArray, List.set_cons_succ, List.set_cons_zero]; rfl) ?_
      first
        | refine pl_get (i := 14) rfl rfl HS0.out rfl (fun u hu => by (try dsimp only at hu); go_simp; rfl) (by simp only [List.setIfInBounds_toArray, List.set_cons_succ, List.set_cons_zero]; rfl) ?_
        | refine pl_skip (i := 14) rfl rfl HS0.out rfl (by simp only [List.setIfInBounds_toArray, List.set_cons_succ, List.set_cons_zero]; rfl) ?_
      refine pl_one (i := 8) rfl ?_
      go_wp2_with ((go_at_call 27; refine (rused_any rb B ra rcap room kept (N.take j) _ HR0.out (by rw [hjl]; omega) h0 (fun x hx => Hs.out x (List.mem_of_mem_take hx)) (by omega) u Hu.out).mono ?_; rintro _ w3 ⟨rfl, rfl⟩))
      refine pl_next (fun _ => HS0.out) ?_
      first
        | refine pl_get (i := 15) rfl rfl HS0.out rfl (fun u hu => by (try dsimp only at hu); go_simp; rfl) (by simp only [List.setIfInBounds_toArray, List.set_cons_succ, List.set_cons_zero]; rfl) ?_
        | refine pl_skip (i := 15) rfl rfl HS0.out rfl (by simp only [List.setIfInBounds_toArray, List.set_cons_succ, List.set_cons_zero]; rfl) ?_
      first
        | refine pl_get (i := 16) rfl rfl HS0.out rfl (fun u hu => by (try dsimp only at hu); go_simp; rfl) (by simp only [List.setIfInBounds_toArray, List.set_cons_succ, List.set_cons_zero]; rfl) ?_
        | refine pl_skip (i := 16) rfl rfl HS0.out rfl (by simp only [List.setIfInBounds_toArray, List.set_cons_succ, List.set_cons_zero]; rfl) ?_
      refine pl_done ?_
      rcases hcase with ⟨rfl, rfl⟩ | ⟨rfl, hlt0⟩
      · go_wp2
        go_ret
        exact ⟨ga, gc, rfl, HOG0.out, ⟨ra, rcap, HR0.out⟩, HK0.out⟩
      · obtain ⟨i, rfl⟩ : ∃ i, j = i + 1 := ⟨j - 1, by omega⟩
        obtain ⟨x, hx⟩ : ∃ x, N[i]? = some x := ⟨_, List.getElem?_eq_getElem (by omega)⟩
        have hxt : (N.take (i + 1))[i]? = some x := by rw [List.getElem?_take_of_lt (by omega)]; exact hx
        have hgs := goneR_snoc hx
        have hwi : IntKind.i64.wrap (((i + 1 : Nat) : Int) - 1) = (i : Int) := by rw [IntKind.wrap_i64]; omega
        have hwi2 : IntKind.i64.wrap ((i : Int) + 1 - 1) = (i : Int) := by rw [IntKind.wrap_i64]; omega
        have hwi3 : IntKind.i64.wrap (i : Int) = (i : Int) := by rw [IntKind.wrap_i64]; omega
        have hir : i ≤ rcap := by have h9 := HR0.out.own.room; rw [hjl] at h9; have h8 := h9.2.1; omega
        have hir2 : ¬ rcap < i := by omega
        have hir3 : (i : Int) ≤ (rcap : Int) := by omega
        have hii : i < i + 1 := Nat.lt_succ_self i
        have hii2 : (i : Int) < ((i + 1 : Nat) : Int) := by omega
        have hii3 : (i : Int) < (i : Int) + 1 := by omega
        have hti : (N.take (i + 1)).take i = N.take i := by rw [List.take_take]; congr 1; omega
        have Hti := Lib.hid hti
        have Hgs := Lib.hid hgs
        have R0 := HR0.out
        obtain ⟨g, cg, hvv, hg1, hg2, hcx⟩ := R0.own.cells tCells_len hxt
        cases hvv
        have m0 := hcx 0 _ rfl
        simp only [Nat.add_zero] at m0
        obtain ⟨x0, x1, x2⟩ := x
        have m0' : wr.drew.cell? ⟨g, i * 3, none⟩ = some (.string x0) := by simpa using m0
        have HS1 := Lib.hid (show wr.drew.cell? ⟨rb, 0, none⟩ = some (.slice (some ⟨g, 0, none⟩) (i + 1) rcap) ∧ wr.drew.cell? ⟨g, i * 3, none⟩ = some (.string x0) from ⟨HS0.out.1, m0'⟩)
        have hrc := R0.own.room
        rw [hjl] at hrc
        have hrc1 := hrc.2.1
        have hrc2 := hrc.2.2
        unfold maxLen at hrc2
        have hgl := goneR_len N (i + 1)
        have hgl2 := goneR_len N i
        have hjl' : (N.take (i + 1)).length = i + 1 := hjl
        simp only at Hgs
        obtain ⟨G, hG⟩ : ∃ q, goneR N (i + 1) = q := ⟨_, rfl⟩
        obtain ⟨G', hG'⟩ : ∃ q, goneR N i = q := ⟨_, rfl⟩
        rw [hG, hG'] at Hgs
        rw [hG] at HOG0 hgl hlo ⊢
        rw [hG'] at hgl2
        have HG' := Lib.hid hG'
        have HgL := Lib.hid hgl
        have HgL2 := Lib.hid hgl2
        have Hlo := Lib.hid hlo
        clear hgl hgl2 hlo
        clear hcx hx hxt hgs hti m0 m0' R0 hrc HS0 hst hu hbd hG hG' HOG HR Hkr hjl
        go_wp2_with fail
        generalize wr.drew = W at HS1 HR0 HOG0 HK0 ⊢
        refine wp_region_pl (fun q => q.cell? ⟨rb, 0, none⟩ = some (.slice (some ⟨g, 0, none⟩) (i + 1) rcap) ∧ q.cell? ⟨g, i * 3, none⟩ = some (.string x0)) [] (.rd 0 (.rd 1 (.rd 2 (.rd 3 (.rd 4 (.rd 5 (.rd 6 (.rd 7 (.rd 8 (.rd 9 (.rd 10 (.rd 11 (.rd 12 (.rd 13 (.one 14 (.one 15 (.one 16 .done))))))))))))))))) (by kernel_rfl) (by kernel_rfl) (by kernel_rfl) (by kernel_rfl) (by intro c b d v u h; cases d <;> exact h) ?_
        have kd1 : Keep NoB W W.drew := (Keep.refl NoB W).drew
        have HS2 := Lib.hid (ks2 HS1.out kd1)
        have HR2 := Lib.hid (HR0.out.keep0 kd1)
        have HOG2 := Lib.hid (HOG0.out.keep kd1 (fun _ _ h => h))
        have HK2 := Lib.hid (HK0.out.trans kd1.none)
        clear kd1 HS1 HR0 HOG0 HK0
        generalize W.drew = W2 at HS2 HR2 HOG2 HK2 ⊢
        first
          | refine pl_get (i := 0) rfl rfl HS2.out rfl (fun u hu => by (try dsimp only at hu); go_simp; rfl) (by simp only [List.setIfInBounds_toArray, List.set_cons_succ, List.set_cons_zero]; rfl) ?_
          | refine pl_skip (i := 0) rfl rfl HS2.out rfl (by simp only [List.setIfInBounds_toArray, List.set_cons_succ, List.set_cons_zero]; rfl) ?_
        first
          | refine pl_get (i := 1) rfl rfl HS2.out rfl (fun u hu => by (try dsimp only at hu); go_simp; rfl) (by simp only [List.setIfInBounds_toArray, List.set_cons_succ, List.set_cons_zero]; rfl) ?_
          | refine pl_skip (i := 1) rfl rfl HS2.out rfl (by simp only [List.setIfInBounds_toArray, List.set_cons_succ, List.set_cons_zero]; rfl) ?_
        first
          | refine pl_get (i := 2) rfl rfl HS2.out rfl (fun u hu => by (try dsimp only at hu); go_simp; rfl) (by simp only [List.setIfInBounds_toArray, List.set_cons_succ, List.set_cons_zero]; rfl) ?_
          | refine pl_skip (i := 2) rfl rfl HS2.out rfl (by simp only [List.setIfInBounds_toArray, List.set_cons_succ, List.set_cons_zero]; rfl) ?_
        first
          | refine pl_get (i := 3) rfl rfl HS2.out rfl (fun u hu => by (try dsimp only at hu); go_simp; rfl) (by simp only [List.setIfInBounds_toArray, List.set_cons_succ, List.set_cons_zero]; rfl) ?_
          | refine pl_skip (i := 3) rfl rfl HS2.out rfl (by simp only [List.setIfInBounds_toArray, List.set_cons_succ, List.set_cons_zero]; rfl) ?_
        first
          | refine pl_get (i := 4) rfl rfl HS2.out rfl (fun u hu => by (try dsimp only at hu); go_simp; rfl) (by simp only [List.setIfInBounds_toArray, List.set_cons_succ, List.set_cons_zero]; rfl) ?_
          | refine pl_skip (i := 4) rfl rfl HS2.out rfl (by simp only [List.setIfInBounds_toArray, List.set_cons_succ, List.set_cons_zero]; rfl) ?_
        first
          | refine pl_get (i := 5) rfl rfl HS2.out rfl (fun u hu => by (try dsimp only at hu); go_simp; rfl) (by simp only [List.setIfInBounds_toArray, List.set_cons_succ, List.set_cons_zero]; rfl) ?_
          | refine pl_skip (i := 5) rfl rfl HS2.out rfl (by simp only [List.setIfInBounds_toArray, List.set_cons_succ, List.set_cons_zero]; rfl) ?_
        first
          | refine pl_get (i := 6) rfl rfl HS2.out rfl (fun u hu => by (try dsimp only at hu); go_simp; rfl) (by simp only [List.setIfInBounds_toArray, List.set_cons_succ, List.set_cons_zero]; rfl) ?_
          | refine pl_skip (i := 6) rfl rfl HS2.out rfl (by simp only [List.setIfInBounds_toArray, List.set_cons_succ, List.set_cons_zero]; rfl) ?_
        first
          | refine pl_get (i := 7) rfl rfl HS2.out rfl (fun u hu => by (try dsimp only at hu); go_simp; rfl) (by simp only [List.setIfInBounds_toArray, List.set_cons_succ, List.set_cons_zero]; rfl) ?_
          | refine pl_skip (i := 7) rfl rfl HS2.out rfl (by simp only [List.setIfInBounds_toArray, List.set_cons_succ, List.set_cons_zero]; rfl) ?_
        first
          | refine pl_get (i := 8) rfl rfl HS2.out rfl (fun u hu => by (try dsimp only at hu); go_simp; rfl) (by simp only [List.setIfInBounds_toArray, List.set_cons_succ, List.set_cons_zero]; rfl) ?_
          | refine pl_skip (i := 8) rfl rfl HS2.out rfl (by simp only [List.setIfInBounds_toArray, List.set_cons_succ, List.set_cons_zero]; rfl) ?_
        first
          | refine pl_get (i := 9) rfl rfl HS2.out rfl (fun u hu => by (try dsimp only at hu); go_simp; rfl) (by simp only [List.setIfInBounds_toArray, List.set_cons_succ, List.set_cons_zero]; rfl) ?_
          | refine pl_skip (i := 9) rfl rfl HS2.out rfl (by simp only [List.setIfInBounds_toArray, List.set_cons_succ, List.set_cons_zero]; rfl) ?_
        first
          | refine pl_get (i := 10) rfl rfl HS2.out rfl (fun u hu => by (try dsimp only at hu); go_simp; rfl) (by simp only [List.setIfInBounds_toArray, List.set_cons_succ, List.set_cons_zero]; rfl) ?_
          | refine pl_skip (i := 10) rfl rfl HS2.out rfl (by simp only [List.setIfInBounds_toArray, List.set_cons_succ, List.set_cons_zero]; rfl) ?_
        first
          | refine pl_get (i := 11) rfl rfl HS2.out rfl (fun u hu => by (try dsimp only at hu); go_simp; rfl) (by simp only [List.setIfInBounds_toArray, List.set_cons_succ, List.set_cons_zero]; rfl) ?_
          | refine pl_skip (i := 11) rfl rfl HS2.out rfl (by simp only [List.setIfInBounds_toArray, List.set_cons_succ, List.set_cons_zero]; rfl) ?_
        first
          | refine pl_get (i := 12) rfl rfl HS2.out rfl (fun u hu => by (try dsimp only at hu); go_simp; rfl) (by simp only [List.setIfInBounds_toArray, List.set_cons_succ, List.set_cons_zero]; rfl) ?_
          | refine pl_skip (i := 12) rfl rfl HS2.out rfl (by simp only [List.setIfInBounds_toArray, List.set_cons_succ, List.set_cons_zero]; rfl) ?_
        first
          | refine pl_get (i := 13) rfl rfl HS2.out rfl (fun u hu => by (try dsimp only at hu); go_simp; rfl) (by simp only [List.setIfInBounds_toArray, List.set_cons_succ, List.set_cons_zero]; rfl) ?_
          | refine pl_skip (i := 13) rfl rfl HS2.out rfl (by simp only [List.setIfInBounds_toArray, List.set_cons_succ, List.set_cons_zero]; rfl) ?_
        refine pl_one (i := 14) rfl ?_
        go_wp2_with (fail)
        have kb : Keep NoB W2 (W2.alloc (.cells #[.string x0] 9)) := (Keep.refl NoB W2).alloc _
        have HS3 := Lib.hid (ks2 HS2.out kb)
        have R3 := HR2.out.keep0 kb
        have OG3 := HOG2.out.alloc (.cells #[.string x0] 9)
        have K3 := HK2.out.trans kb.none
        have s3 := K3.size
        refine pl_next (fun _ => HS3.out) ?_
        refine pl_one (i := 15) rfl ?_
        refine wpList_append_one (B := w.heap.size) rfl (.tmp 24) (.tmp 38) 22 rfl Try.underlying22 info9' (by kernel_rfl) (by decide) (by decide) rfl OG3 cS_len x0 rfl (c := #[.string x0]) (t' := 9) (f := (0, 0)) (blk_new W2 _) rfl (cS_one _) (by have h9 := HgL.out; omega) s3 Hgs.out ?_
        intro a4 c4 w4 O4 k4
        have hn1 : ¬ (Value.slice ga G.length gc).ownBlock = some rb := fun e => OG3.ne R3.blk (by decide) rb e rfl
        have hn2 : ∀ q, (Value.slice (some ⟨g, 0, none⟩) (N.take (i + 1)).length rcap).ownBlock = some q → ¬ (Value.slice ga G.length gc).ownBlock = some q := fun q hq e => R3.own.ne_own OG3 (by decide) q hq e
        have HR4 := Lib.hid (R3.keep k4 hn1 hn2)
        have HK4 := Lib.hid (K3.trans' k4 (fun q hq e => by have := OG3.fresh q e; omega))
        have HS4 := Lib.hid (show w4.cell? ⟨rb, 0, none⟩ = some (.slice (some ⟨g, 0, none⟩) (i + 1) rcap) ∧ w4.cell? ⟨g, i * 3, none⟩ = some (.string x0) from ⟨k4.some HS3.out.1 hn1, k4.some HS3.out.2 (hn2 g rfl)⟩)
        have HO4 := Lib.hid O4
        refine pl_next (fun _ => HS4.out) ?_
        clear O4 k4 hn1 hn2 R3 OG3 K3 kb HS3 s3
        refine pl_one (i := 16) rfl ?_
        go_wp2_with (fail)
        refine pl_next (fun _ => HS4.out) ?_
        refine pl_done ?_
        go_wp2_with fail
        refine wp_region_pl (fun q => q.cell? ⟨rb, 0, none⟩ = some (.slice (some ⟨g, 0, none⟩) (i + 1) rcap)) [16] (.rd 0 (.rd 2 (.rd 3 (.rd 4 (.rd 5 (.rd 6 (.rd 7 (.rd 8 (.rd 9 (.rd 10 (.rd 11 (.rd 12 (.one 1 (.one 13 (.one 14 (.one 15 (.one 16 .done))))))))))))))))) (by kernel_rfl) (by kernel_rfl) (by kernel_rfl) (by kernel_rfl) (by intro c b d v u h; cases d <;> exact h) ?_
        have kd2 : Keep NoB w4 w4.drew := (Keep.refl NoB w4).drew
        have HS5 := Lib.hid (ks1 HS4.out.1 kd2)
        have HR5 := Lib.hid (HR4.out.keep0 kd2)
        have HO5 := Lib.hid (HO4.out.keep kd2 (fun _ _ h => h))
        have HK5 := Lib.hid (HK4.out.trans kd2.none)
        clear kd2 HS4 HR4 HO4 HK4
        generalize w4.drew = W5 at HS5 HR5 HO5 HK5 ⊢
        first
          | refine pl_get (i := 0) rfl rfl HS5.out rfl (fun u hu => by (try dsimp only at hu); go_simp; rfl) (by simp only [List.setIfInBounds_toArray, List.set_cons_succ, List.set_cons_zero]; rfl) ?_
          | refine pl_skip (i := 0) rfl rfl HS5.out rfl (by simp only [List.setIfInBounds_toArray, List.set_cons_succ, List.set_cons_zero]; rfl) ?_
        first
          | refine pl_get (i := 2) rfl rfl HS5.out rfl (fun u hu => by (try dsimp only at hu); go_simp; rfl) (by simp only [List.setIfInBounds_toArray, List.set_cons_succ, List.set_cons_zero]; rfl) ?_
          | refine pl_skip (i := 2) rfl rfl HS5.out rfl (by simp only [List.setIfInBounds_toArray, List.set_cons_succ, List.set_cons_zero]; rfl) ?_
        first
          | refine pl_get (i := 3) rfl rfl HS5.out rfl (fun u hu => by (try dsimp only at hu); go_simp; rfl) (by simp only [List.setIfInBounds_toArray, List.set_cons_succ, List.set_cons_zero]; rfl) ?_
          | refine pl_skip (i := 3) rfl rfl HS5.out rfl (by simp only [List.setIfInBounds_toArray, List.set_cons_succ, List.set_cons_zero]; rfl) ?_
        first
          | refine pl_get (i := 4) rfl rfl HS5.out rfl (fun u hu => by (try dsimp only at hu); go_simp; rfl) (by simp only [List.setIfInBounds_toArray, List.set_cons_succ, List.set_cons_zero]; rfl) ?_
          | refine pl_skip (i := 4) rfl rfl HS5.out rfl (by simp only [List.setIfInBounds_toArray, List.set_cons_succ, List.set_cons_zero]; rfl) ?_
        first
          | refine pl_get (i := 5) rfl rfl HS5.out rfl (fun u hu => by (try dsimp only at hu); go_simp; rfl) (by simp only [List.setIfInBounds_toArray, List.set_cons_succ, List.set_cons_zero]; rfl) ?_
          | refine pl_skip (i := 5) rfl rfl HS5.out rfl (by simp only [List.setIfInBounds_toArray, List.set_cons_succ, List.set_cons_zero]; rfl) ?_
        first
          | refine pl_get (i := 6) rfl rfl HS5.out rfl (fun u hu => by (try dsimp only at hu); go_simp; rfl) (by simp only [List.setIfInBounds_toArray, List.set_cons_succ, List.set_cons_zero]; rfl) ?_
          | refine pl_skip (i := 6) rfl rfl HS5.out rfl (by simp only [List.setIfInBounds_toArray, List.set_cons_succ, List.set_cons_zero]; rfl) ?_
        first
          | refine pl_get (i := 7) rfl rfl HS5.out rfl (fun u hu => by (try dsimp only at hu); go_simp; rfl) (by simp only [List.setIfInBounds_toArray, List.set_cons_succ, List.set_cons_zero]; rfl) ?_
          | refine pl_skip (i := 7) rfl rfl HS5.out rfl (by simp only [List.setIfInBounds_toArray, List.set_cons_succ, List.set_cons_zero]; rfl) ?_
        first
          | refine pl_get (i := 8) rfl rfl HS5.out rfl (fun u hu => by (try dsimp only at hu); go_simp; rfl) (by simp only [List.setIfInBounds_toArray, List.set_cons_succ, List.set_cons_zero]; rfl) ?_
          | refine pl_skip (i := 8) rfl rfl HS5.out rfl (by simp only [List.setIfInBounds_toArray, List.set_cons_succ, List.set_cons_zero]; rfl) ?_
        first
          | refine pl_get (i := 9) rfl rfl HS5.out rfl (fun u hu => by (try dsimp only at hu); go_simp; rfl) (by simp only [List.setIfInBounds_toArray, List.set_cons_succ, List.set_cons_zero]; rfl) ?_
          | refine pl_skip (i := 9) rfl rfl HS5.out rfl (by simp only [List.setIfInBounds_toArray, List.set_cons_succ, List.set_cons_zero]; rfl) ?_
        first
          | refine pl_get (i := 10) rfl rfl HS5.out rfl (fun u hu => by (try dsimp only at hu); go_simp; rfl) (by simp only [List.setIfInBounds_toArray, List.set_cons_succ, List.set_cons_zero]; rfl) ?_
          | refine pl_skip (i := 10) rfl rfl HS5.out rfl (by simp only [List.setIfInBounds_toArray, List.set_cons_succ, List.set_cons_zero]; rfl) ?_
        first
          | refine pl_get (i := 11) rfl rfl HS5.out rfl (fun u hu => by (try dsimp only at hu); go_simp; rfl) (by simp only [List.setIfInBounds_toArray, List.set_cons_succ, List.set_cons_zero]; rfl) ?_
          | refine pl_skip (i := 11) rfl rfl HS5.out rfl (by simp only [List.setIfInBounds_toArray, List.set_cons_succ, List.set_cons_zero]; rfl) ?_
        first
          | refine pl_get (i := 12) rfl rfl HS5.out rfl (fun u hu => by (try dsimp only at hu); go_simp; rfl) (by simp only [List.setIfInBounds_toArray, List.set_cons_succ, List.set_cons_zero]; rfl) ?_
          | refine pl_skip (i := 12) rfl rfl HS5.out rfl (by simp only [List.setIfInBounds_toArray, List.set_cons_succ, List.set_cons_zero]; rfl) ?_
        refine pl_one (i := 1) rfl ?_
        go_wp2_with (fail)
        have kE : Keep NoB W5 (W5.alloc (.cells #[] 52)) := (Keep.refl NoB W5).alloc _
        have OE := Own.empty W5 (Nat.le_refl _) 52 3 tCells
        have HS6 := Lib.hid (ks1 HS5.out kE)
        have hsub : ∀ c, Sub W5 tCells (.slice (some ⟨g, 0, none⟩) i c) (N.take i) := fun c => by
          have h := Own.take (i := i) HR5.out.own tCells_len (by omega) c
          rw [Hti.out] at h
          exact h
        obtain ⟨M1, hM1⟩ : ∃ q, N.take i = q := ⟨_, rfl⟩
        have hM1l : M1.length = i := by rw [← hM1, List.length_take]; omega
        have HM1 := Lib.hid hM1
        have HM1L := Lib.hid hM1l
        rw [hM1] at hsub
        clear hM1l
        refine pl_next (fun _ => HS6.out) ?_
        refine pl_one (i := 13) rfl ?_
        refine wpList_append_sub rfl (.tmp 41) (.tmp 52) 47 rfl Try.underlying47 info52' (by kernel_rfl) (by decide) (by decide) rfl OE tCells_len tCells_one rfl ((hsub _).keep kE) (by rw [HM1L.out]; simp; omega) (by simp) (List.nil_append M1) ?_
        intro a7 c7 w7 O7 k7
        have K7 : Keep NoB W5 w7 := OE.knob kE k7
        have b7 := blk_keep HR5.out.blk K7 (fun h => h)
        have HS7 := Lib.hid (ks1 HS5.out K7)
        have HOG7 := Lib.hid (HO5.out.keep K7 (fun _ _ h => h))
        have HK7 := Lib.hid (HK5.out.trans K7.none)
        have sB : B ≤ W5.heap.size := by have := HK5.out.size; omega
        have HO7 := Lib.hid (O7.mono sB)
        have e0 := blk_cell b7 0
        have el := blk_lt b7
        have ef := blk_free b7 0
        have Hb7 := Lib.hid b7
        rw [hjl'] at e0
        simp at e0
        refine pl_next (fun _ => HS7.out) ?_
        clear O7 k7 K7 b7 OE kE hsub hM1
        refine pl_one (i := 14) rfl ?_
        go_wp2_with (fail)
        refine pl_next (fun _ => HS7.out) ?_
        refine pl_one (i := 15) rfl ?_
        go_wp2_with (fail)
        refine pl_next (fun _ => HS7.out) ?_
        refine pl_one (i := 16) rfl ?_
        go_wp2_with (fail)
        refine pl_next (fun h => by cases h) ?_
        refine pl_done ?_
        have b9 := blk_setCell (i := 0) Hb7.out (.slice a7 M1.length c7)
        have k9 : Keep (OneB rb) w7 (w7.setCell ⟨rb, 0, none⟩ (.slice a7 M1.length c7)) := (Keep.refl (OneB rb) w7).setCell (p := ⟨rb, 0, none⟩) (Or.inr rfl) _
        simp at b9
        generalize w7.setCell ⟨rb, 0, none⟩ (.slice a7 M1.length c7) = w9 at b9 k9 ⊢
        have HR9 := Lib.hid (show RC w9 B rb a7 c7 room kept M1 from ⟨b9, HO7.out.keep k9 (fun q hq e => HO7.out.ne Hb7.out (by decide) q hq e)⟩)
        have HO9 := Lib.hid (HOG7.out.keep k9 (fun q hq e => HOG7.out.ne Hb7.out (by decide) q hq e))
        have HK9 := Lib.hid (HK7.out.trans k9)
        clear b9 k9 e0 el ef
        go_wp2_with fail
        go_roundw
        case rel => exact ⟨i, by omega, by omega, ⟨⟨a4, c4, a7, c7, by rw [HG'.out], by rw [HG'.out]; exact HO9.out, by rw [HM1.out]; exact HR9.out⟩, HK9.out⟩, by simp only [lenOf]; have h9 := HgL2.out; omega⟩
        case measure =>
          have h8 := HgL2.out
          have h9 := HgL.out
          have h7 := goneR_len N (i + 1)
          simp only [lenOf]
          omega
end Go.Proofs.Ytgbcjnejlelndaa
