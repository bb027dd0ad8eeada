/- The walk of MarkerOrder. -/
import Derived.Test.YtgangbkompkidaaMarkerD
namespace Go.Proofs.Ytgangbkompkidaa
open Go Go.RowKit Go.Maps Go.Sort

structure OS (w wr : World) (ta ma tb mb : Nat) (za zb : Nat → MK) (k : Nat) : Prop where
  A : Tab wr ta ma 1000 (mputs za k)
  B : Tab wr tb mb 1000 (mputs zb k)
  hk : Keep NoB w wr
/-- Which blocks the two tables take. -/
structure OB (w : World) (ta ma tb mb : Nat) : Prop where
  lo : w.heap.size ≤ ma
  lo2 : w.heap.size ≤ mb
  a : ta ≠ mb
  b : tb ≠ ma
  m : ma ≠ mb
section
variable {w wr w' : World} {ta ma tb mb : Nat} {za zb : Nat → MK} {k : Nat}
theorem OS.keep (D : OS w wr ta ma tb mb za zb k) (hk : Keep NoB wr w') : OS w w' ta ma tb mb za zb k :=
  ⟨D.A.keep hk (fun h => h) (fun h => h), D.B.keep hk (fun h => h) (fun h => h), D.hk.trans hk⟩
end

set_option maxRecDepth 100000 in
set_option maxHeartbeats 8000000 in
theorem order_walk (a0 : Option Addr) (len0 cap0 : Nat) (z : Nat → MOp) (w : World) (h0 : IsOps w a0 len0 z) :
    Calls Try.prog 4 #[.slice a0 len0 cap0] w fun e w' => e = .returned (.bool true) ∧ Below w.heap.size w w' := by
  obtain ⟨hmax, hok, hrow⟩ := h0
  unfold maxLen at hmax
  have Hok0 := Lib.hid hok
  have Hrow := Lib.hid hrow
  clear hok hrow
  obtain ⟨n, hn⟩ : ∃ n, min len0 200 = n := ⟨_, rfl⟩
  have hmn : min (len0 : Int) 200 = (n : Int) := by omega
  have HMN := Lib.hid hmn
  have hn0 : n ≤ len0 := by omega
  have hn2 : n ≤ 200 := by omega
  clear hmn hn
  obtain ⟨za, hza⟩ : ∃ f : Nat → MK, (fun i => (z i).2) = f := ⟨_, rfl⟩
  obtain ⟨zb, hzb⟩ : ∃ f : Nat → MK, (fun i => za (n - 1 - i)) = f := ⟨_, rfl⟩
  have Hza := Lib.hid hza
  have Hzb := Lib.hid hzb
  have Hback := Lib.hid (show mputs zb n = mputs za n from by rw [← hzb]; exact mputs_back za n)
  clear hza hzb
  go_enter Try.func4, Try.ntmps4
  go_wp2_with fail
  refine (awake_any _).mono ?_
  rintro _ w1 ⟨rfl, hk1⟩
  go_wp2_with fail
  refine (new_any 1000 _).mono ?_
  rintro _ w2 ⟨rfl, T2, hk2, hs2⟩
  go_wp2_with fail
  refine (new_any 1000 _).mono ?_
  rintro _ w3 ⟨rfl, T3, hk3, hs3⟩
  have HD3 := Lib.hid (show OS w w3 (w1.heap.size + 1) w1.heap.size (w2.heap.size + 1) w2.heap.size za zb 0 from ⟨T2.keep hk3 (fun h => h) (fun h => h), T3, (hk1.trans hk2).trans hk3⟩)
  have HOB := Lib.hid (show OB w (w1.heap.size + 1) w1.heap.size (w2.heap.size + 1) w2.heap.size from ⟨hk1.size, by have := hk1.size; have := hk2.size; omega, by omega, by omega, by omega⟩)
  generalize w1.heap.size + 1 = ta at HD3 HOB ⊢
  generalize w1.heap.size = ma at HD3 HOB ⊢
  generalize w2.heap.size + 1 = tb at HD3 HOB ⊢
  generalize w2.heap.size = mb at HD3 HOB ⊢
  have hoa := Lib.hid (show ∀ i, i < w.heap.size → OneB ma i → NoB i from fun i hi e => by have := HOB.out.lo; have e' : i = ma := e; omega)
  have hob := Lib.hid (show ∀ i, i < w.heap.size → OneB mb i → NoB i from fun i hi e => by have := HOB.out.lo2; have e' : i = mb := e; omega)
  clear T2 T3 hk1 hk2 hk3 hs2 hs3
  go_wp2_with (refine wpList_min2 _ rfl _ _ _ _ rfl _ _ rfl rfl (n : Int) HMN.out ?_)
  go_loopw [6] (fun i wr => ∃ k : Nat, k ≤ n ∧ i = .int .i64 k ∧ OS w wr ta ma tb mb za zb k) (fun i _ => n - (intOf i).toNat)
  case atStart => exact ⟨0, Nat.zero_le _, rfl, HD3.out⟩
  case round =>
    clear HD3
    obtain ⟨k, hk, rfl, D⟩ := hrel
    by_cases hgo : k < n
    · have hgo' : decide ((k : Int) < (n : Int)) = true := by simp; omega
      rcases Hrow.out with h | ⟨b, off, rfl, hb, hc⟩
      · omega
      have hlt : k < len0 := by omega
      obtain ⟨j, hj⟩ : ∃ j, n - 1 - k = j := ⟨_, rfl⟩
      have hjl : j < len0 := by omega
      have p1 : IntKind.i64.wrap ((n : Int) - 1) = (n : Int) - 1 := by rw [IntKind.wrap_i64]; omega
      have p2 : IntKind.i64.wrap ((n : Int) - 1 - (k : Int)) = (j : Int) := by rw [IntKind.wrap_i64]; omega
      obtain ⟨_, l1, l2, l3⟩ := hc k hlt
      obtain ⟨_, j1, j2, j3⟩ := hc j hjl
      have ha : za k = (z k).2 := by rw [← Hza.out]
      have hb' : zb k = (z j).2 := by rw [← Hzb.out, ← Hza.out, ← hj]
      have hopk := Hok0.out k hlt
      have hopj := Hok0.out j hjl
      unfold opOk at hopk hopj
      rw [← ha] at hopk
      rw [← hb'] at hopj
      replace l1 := D.hk.some l1 (fun h => h)
      replace l2 := D.hk.some l2 (fun h => h)
      replace l3 := D.hk.some l3 (fun h => h)
      replace j1 := D.hk.some j1 (fun h => h)
      replace j2 := D.hk.some j2 (fun h => h)
      replace j3 := D.hk.some j3 (fun h => h)
      rw [← ha] at l1 l2 l3
      rw [← hb'] at j1 j2 j3
      have hb0 : b < wr.heap.size := Nat.lt_of_lt_of_le hb D.hk.size
      have hbm : b ≠ ma := by have := HOB.out.lo; omega
      have Hpa : mputs za (k + 1) = mput (za k) (mputs za k) := rfl
      have Hpb : mputs zb (k + 1) = mput (zb k) (mputs zb k) := rfl
      obtain ⟨A', hA'⟩ : ∃ l, mputs za (k + 1) = l := ⟨_, rfl⟩
      obtain ⟨B', hB'⟩ : ∃ l, mputs zb (k + 1) = l := ⟨_, rfl⟩
      rw [hA'] at Hpa
      rw [hB'] at Hpb
      have HA' := Lib.hid hA'
      have HB' := Lib.hid hB'
      have hla := mputs_len za k
      have hlb := mputs_len zb k
      obtain ⟨x, hx⟩ : ∃ x, za k = x := ⟨_, rfl⟩
      obtain ⟨y, hy⟩ : ∃ y, zb k = y := ⟨_, rfl⟩
      rw [hx] at l1 l2 l3 hopk Hpa
      rw [hy] at j1 j2 j3 hopj Hpb
      replace Hpa := Lib.hid Hpa.symm
      replace Hpb := Lib.hid Hpb.symm
      clear hx hy ha hb' hc hj hA' hB'
      obtain ⟨s, sa, sr⟩ := x
      obtain ⟨u, ua, ur⟩ := y
      simp only at l1 l2 l3 j1 j2 j3
      have Hx := Lib.hid hopk
      have Hy := Lib.hid hopj
      have HS := Lib.hid (show wr.cell? ⟨b, off + k * 4 + 1, none⟩ = some (.string s) ∧ wr.cell? ⟨b, off + k * 4 + 2, none⟩ = some (.int .i64 sa) ∧ wr.cell? ⟨b, off + k * 4 + 3, none⟩ = some (.int .i64 sr) from ⟨l1, l2, l3⟩)
      have HJ := Lib.hid (show wr.cell? ⟨b, off + j * 4 + 1, none⟩ = some (.string u) ∧ wr.cell? ⟨b, off + j * 4 + 2, none⟩ = some (.int .i64 ua) ∧ wr.cell? ⟨b, off + j * 4 + 3, none⟩ = some (.int .i64 ur) from ⟨j1, j2, j3⟩)
      have HD := Lib.hid D
      clear l1 l2 l3 j1 j2 j3 hopk hopj D hb0
      go_wp2_with fail
      refine wp_region_pl (fun q => q.cell? ⟨b, off + k * 4 + 1, none⟩ = some (.string s) ∧ q.cell? ⟨b, off + k * 4 + 2, none⟩ = some (.int .i64 sa) ∧ q.cell? ⟨b, off + k * 4 + 3, none⟩ = some (.int .i64 sr)) [] (.rd 0 (.rd 1 (.rd 2 (.rd 3 (.rd 4 (.rd 5 (.rd 6 (.rd 7 (.rd 8 (.rd 9 (.rd 10 (.rd 11 (.rd 12 (.rd 13 (.rd 14 (.rd 15 (.one 16 .done))))))))))))))))) (by kernel_rfl) (by kernel_rfl) (by kernel_rfl) (by kernel_rfl) (by intro c b d v u h; cases d <;> exact h) ?_
      have kd0 : Keep NoB wr wr.drew := (Keep.refl NoB wr).drew
      have HD0 := Lib.hid (HD.out.keep kd0)
      have HS0 := Lib.hid (ks3 HS.out kd0)
      have HJ0 := Lib.hid (ks3 HJ.out kd0)
      clear kd0 HS HJ HD
      first
        | refine pl_get (i := 0) rfl rfl HS0.out rfl (fun u hu => by (try dsimp only at hu); go_simp; rfl) (by simp only [List.setIfInBounds_toArray, List.set_cons_succ, List.set_cons_zero]; rfl) ?_
        | refine pl_skip (i := 0) rfl rfl HS0.out rfl (by simp only [List.setIfInBounds_toArray, List.set_cons_succ, List.set_cons_zero]; rfl) ?_
      first
        | refine pl_get (i := 1) rfl rfl HS0.out rfl (fun u hu => by (try dsimp only at hu); go_simp; rfl) (by simp only [List.setIfInBounds_toArray, List.set_cons_succ, List.set_cons_zero]; rfl) ?_
        | refine pl_skip (i := 1) rfl rfl HS0.out rfl (by simp only [List.setIfInBounds_toArray, List.set_cons_succ, List.set_cons_zero]; rfl) ?_
      first
        | refine pl_get (i := 2) rfl rfl HS0.out rfl (fun u hu => by (try dsimp only at hu); go_simp; rfl) (by simp only [List.setIfInBounds_toArray, List.set_cons_succ, List.set_cons_zero]; rfl) ?_
        | refine pl_skip (i := 2) rfl rfl HS0.out rfl (by simp only [List.setIfInBounds_toArray, List.set_cons_succ, List.set_cons_zero]; rfl) ?_
      first
        | refine pl_get (i := 3) rfl rfl HS0.out rfl (fun u hu => by (try dsimp only at hu); go_simp; rfl) (by simp only [List.setIfInBounds_toArray, List.set_cons_succ, List.set_cons_zero]; rfl) ?_
        | refine pl_skip (i := 3) rfl rfl HS0.out rfl (by simp only [List.setIfInBounds_toArray, List.set_cons_succ, List.set_cons_zero]; rfl) ?_
      first
        | refine pl_get (i := 4) rfl rfl HS0.out rfl (fun u hu => by (try dsimp only at hu); go_simp; rfl) (by simp only [List.setIfInBounds_toArray, List.set_cons_succ, List.set_cons_zero]; rfl) ?_
        | refine pl_skip (i := 4) rfl rfl HS0.out rfl (by simp only [List.setIfInBounds_toArray, List.set_cons_succ, List.set_cons_zero]; rfl) ?_
      first
        | refine pl_get (i := 5) rfl rfl HS0.out rfl (fun u hu => by (try dsimp only at hu); go_simp; rfl) (by simp only [List.setIfInBounds_toArray, List.set_cons_succ, List.set_cons_zero]; rfl) ?_
        | refine pl_skip (i := 5) rfl rfl HS0.out rfl (by simp only [List.setIfInBounds_toArray, List.set_cons_succ, List.set_cons_zero]; rfl) ?_
      first
        | refine pl_get (i := 6) rfl rfl HS0.out rfl (fun u hu => by (try dsimp only at hu); go_simp; rfl) (by simp only [List.setIfInBounds_toArray, List.set_cons_succ, List.set_cons_zero]; rfl) ?_
        | refine pl_skip (i := 6) rfl rfl HS0.out rfl (by simp only [List.setIfInBounds_toArray, List.set_cons_succ, List.set_cons_zero]; rfl) ?_
      first
        | refine pl_get (i := 7) rfl rfl HS0.out rfl (fun u hu => by (try dsimp only at hu); go_simp; rfl) (by simp only [List.setIfInBounds_toArray, List.set_cons_succ, List.set_cons_zero]; rfl) ?_
        | refine pl_skip (i := 7) rfl rfl HS0.out rfl (by simp only [List.setIfInBounds_toArray, List.set_cons_succ, List.set_cons_zero]; rfl) ?_
      first
        | refine pl_get (i := 8) rfl rfl HS0.out rfl (fun u hu => by (try dsimp only at hu); go_simp; rfl) (by simp only [List.setIfInBounds_toArray, List.set_cons_succ, List.set_cons_zero]; rfl) ?_
        | refine pl_skip (i := 8) rfl rfl HS0.out rfl (by simp only [List.setIfInBounds_toArray, List.set_cons_succ, List.set_cons_zero]; rfl) ?_
      first
        | refine pl_get (i := 9) rfl rfl HS0.out rfl (fun u hu => by (try dsimp only at hu); go_simp; rfl) (by simp only [List.setIfInBounds_toArray, List.set_cons_succ, List.set_cons_zero]; rfl) ?_
        | refine pl_skip (i := 9) rfl rfl HS0.out rfl (by simp only [List.setIfInBounds_toArray, List.set_cons_succ, List.set_cons_zero]; rfl) ?_
      first
        | refine pl_get (i := 10) rfl rfl HS0.out rfl (fun u hu => by (try dsimp only at hu); go_simp; rfl) (by simp only [List.setIfInBounds_toArray, List.set_cons_succ, List.set_cons_zero]; rfl) ?_
        | refine pl_skip (i := 10) rfl rfl HS0.out rfl (by simp only [List.setIfInBounds_toArray, List.set_cons_succ, List.set_cons_zero]; rfl) ?_
      first
        | refine pl_get (i := 11) rfl rfl HS0.out rfl (fun u hu => by (try dsimp only at hu); go_simp; rfl) (by simp only [List.setIfInBounds_toArray, List.set_cons_succ, List.set_cons_zero]; rfl) ?_
        | refine pl_skip (i := 11) rfl rfl HS0.out rfl (by simp only [List.setIfInBounds_toArray, List.set_cons_succ, List.set_cons_zero]; rfl) ?_
      first
        | refine pl_get (i := 12) rfl rfl HS0.out rfl (fun u hu => by (try dsimp only at hu); go_simp; rfl) (by simp only [List.setIfInBounds_toArray, List.set_cons_succ, List.set_cons_zero]; rfl) ?_
        | refine pl_skip (i := 12) rfl rfl HS0.out rfl (by simp only [List.setIfInBounds_toArray, List.set_cons_succ, List.set_cons_zero]; rfl) ?_
      first
        | refine pl_get (i := 13) rfl rfl HS0.out rfl (fun u hu => by (try dsimp only at hu); go_simp; rfl) (by simp only [List.setIfInBounds_toArray, List.set_cons_succ, List.set_cons_zero]; rfl) ?_
        | refine pl_skip (i := 13) rfl rfl HS0.out rfl (by simp only [List.setIfInBounds_toArray, List.set_cons_succ, List.set_cons_zero]; rfl) ?_
      first
        | refine pl_get (i := 14) rfl rfl HS0.out rfl (fun u hu => by (try dsimp only at hu); go_simp; rfl) (by simp only [List.setIfInBounds_toArray, List.set_cons_succ, List.set_cons_zero]; rfl) ?_
        | refine pl_skip (i := 14) rfl rfl HS0.out rfl (by simp only [List.setIfInBounds_toArray, List.set_cons_succ, List.set_cons_zero]; rfl) ?_
      first
        | refine pl_get (i := 15) rfl rfl HS0.out rfl (fun u hu => by (try dsimp only at hu); go_simp; rfl) (by simp only [List.setIfInBounds_toArray, List.set_cons_succ, List.set_cons_zero]; rfl) ?_
        | refine pl_skip (i := 15) rfl rfl HS0.out rfl (by simp only [List.setIfInBounds_toArray, List.set_cons_succ, List.set_cons_zero]; rfl) ?_
      refine pl_one (i := 16) rfl ?_
      go_wp2_with ((go_at_call 12; refine (set_any ta ma 1000 (mputs za k) s sa sr _ HD0.out.A Hx.out (mputs_rise za k) (by unfold maxLen; omega) true (decide_eq_true (Or.inr (by omega))) A' (by rw [msetM_ok (by omega), Hpa.out])).mono ?_; rintro _ w5 ⟨rfl, T5, k5⟩))
      have HS5 := Lib.hid (show w5.cell? ⟨b, off + k * 4 + 1, none⟩ = some (.string s) ∧ w5.cell? ⟨b, off + k * 4 + 2, none⟩ = some (.int .i64 sa) ∧ w5.cell? ⟨b, off + k * 4 + 3, none⟩ = some (.int .i64 sr) from ⟨k5.some HS0.out.1 (fun e => hbm e), k5.some HS0.out.2.1 (fun e => hbm e), k5.some HS0.out.2.2 (fun e => hbm e)⟩)
      have HJ5 := Lib.hid (show w5.cell? ⟨b, off + j * 4 + 1, none⟩ = some (.string u) ∧ w5.cell? ⟨b, off + j * 4 + 2, none⟩ = some (.int .i64 ua) ∧ w5.cell? ⟨b, off + j * 4 + 3, none⟩ = some (.int .i64 ur) from ⟨k5.some HJ0.out.1 (fun e => hbm e), k5.some HJ0.out.2.1 (fun e => hbm e), k5.some HJ0.out.2.2 (fun e => hbm e)⟩)
      have HT5 := Lib.hid T5
      have HB5 := Lib.hid (HD0.out.B.keep k5 (fun e => HOB.out.b e) (fun e => HOB.out.m (Eq.symm e)))
      have HK5 := Lib.hid (HD0.out.hk.trans' k5 hoa.out)
      clear T5 k5 HS0 HJ0 HD0
      refine pl_next (fun _ => HS5.out) ?_
      refine pl_done ?_
      clear HS5
      go_wp2_with fail
      refine wp_region_pl (fun q => q.cell? ⟨b, off + j * 4 + 1, none⟩ = some (.string u) ∧ q.cell? ⟨b, off + j * 4 + 2, none⟩ = some (.int .i64 ua) ∧ q.cell? ⟨b, off + j * 4 + 3, none⟩ = some (.int .i64 ur)) [] (.rd 0 (.rd 1 (.rd 2 (.rd 3 (.rd 4 (.rd 5 (.rd 6 (.rd 7 (.rd 8 (.rd 9 (.rd 10 (.rd 11 (.rd 12 (.rd 13 (.rd 14 (.rd 15 (.rd 16 (.rd 17 (.rd 18 (.rd 19 (.rd 20 (.rd 21 (.rd 22 (.rd 23 (.rd 24 (.one 25 .done)))))))))))))))))))))))))) (by kernel_rfl) (by kernel_rfl) (by kernel_rfl) (by kernel_rfl) (by intro c b d v u h; cases d <;> exact h) ?_
      have kd0 : Keep NoB w5 w5.drew := (Keep.refl NoB w5).drew
      have HT6 := Lib.hid (HT5.out.keep kd0 (fun h => h) (fun h => h))
      have HB6 := Lib.hid (HB5.out.keep kd0 (fun h => h) (fun h => h))
      have HK6 := Lib.hid (HK5.out.trans kd0)
      have HJ6 := Lib.hid (ks3 HJ5.out kd0)
      clear kd0 HT5 HB5 HK5 HJ5
      first
        | refine pl_get (i := 0) rfl rfl HJ6.out rfl (fun u hu => by (try dsimp only at hu); go_simp; rfl) (by simp only [List.setIfInBounds_toArray, List.set_cons_succ, List.set_cons_zero]; rfl) ?_
        | refine pl_skip (i := 0) rfl rfl HJ6.out rfl (by simp only [List.setIfInBounds_toArray, List.set_cons_succ, List.set_cons_zero]; rfl) ?_
      first
        | refine pl_get (i := 1) rfl rfl HJ6.out rfl (fun u hu => by (try dsimp only at hu); go_simp; rfl) (by simp only [List.setIfInBounds_toArray, List.set_cons_succ, List.set_cons_zero]; rfl) ?_
        | refine pl_skip (i := 1) rfl rfl HJ6.out rfl (by simp only [List.setIfInBounds_toArray, List.set_cons_succ, List.set_cons_zero]; rfl) ?_
      first
        | refine pl_get (i := 2) rfl rfl HJ6.out rfl (fun u hu => by (try dsimp only at hu); go_simp; rfl) (by simp only [List.setIfInBounds_toArray, List.set_cons_succ, List.set_cons_zero]; rfl) ?_
        | refine pl_skip (i := 2) rfl rfl HJ6.out rfl (by simp only [List.setIfInBounds_toArray, List.set_cons_succ, List.set_cons_zero]; rfl) ?_
      first
        | refine pl_get (i := 3) rfl rfl HJ6.out rfl (fun u hu => by (try dsimp only at hu); go_simp; rfl) (by simp only [List.setIfInBounds_toArray, List.set_cons_succ, List.set_cons_zero]; rfl) ?_
        | refine pl_skip (i := 3) rfl rfl HJ6.out rfl (by simp only [List.setIfInBounds_toArray, List.set_cons_succ, List.set_cons_zero]; rfl) ?_
      first
        | refine pl_get (i := 4) rfl rfl HJ6.out rfl (fun u hu => by (try dsimp only at hu); go_simp; rfl) (by simp only [List.setIfInBounds_toArray, List.set_cons_succ, List.set_cons_zero]; rfl) ?_
        | refine pl_skip (i := 4) rfl rfl HJ6.out rfl (by simp only [List.setIfInBounds_toArray, List.set_cons_succ, List.set_cons_zero]; rfl) ?_
      first
        | refine pl_get (i := 5) rfl rfl HJ6.out rfl (fun u hu => by (try dsimp only at hu); go_simp; rfl) (by simp only [List.setIfInBounds_toArray, List.set_cons_succ, List.set_cons_zero]; rfl) ?_
        | refine pl_skip (i := 5) rfl rfl HJ6.out rfl (by simp only [List.setIfInBounds_toArray, List.set_cons_succ, List.set_cons_zero]; rfl) ?_
      first
        | refine pl_get (i := 6) rfl rfl HJ6.out rfl (fun u hu => by (try dsimp only at hu); go_simp; rfl) (by simp only [List.setIfInBounds_toArray, List.set_cons_succ, List.set_cons_zero]; rfl) ?_
        | refine pl_skip (i := 6) rfl rfl HJ6.out rfl (by simp only [List.setIfInBounds_toArray, List.set_cons_succ, List.set_cons_zero]; rfl) ?_
      first
        | refine pl_get (i := 7) rfl rfl HJ6.out rfl (fun u hu => by (try dsimp only at hu); go_simp; rfl) (by simp only [List.setIfInBounds_toArray, List.set_cons_succ, List.set_cons_zero]; rfl) ?_
        | refine pl_skip (i := 7) rfl rfl HJ6.out rfl (by simp only [List.setIfInBounds_toArray, List.set_cons_succ, List.set_cons_zero]; rfl) ?_
      first
        | refine pl_get (i := 8) rfl rfl HJ6.out rfl (fun u hu => by (try dsimp only at hu); go_simp; rfl) (by simp only [List.setIfInBounds_toArray, List.set_cons_succ, List.set_cons_zero]; rfl) ?_
        | refine pl_skip (i := 8) rfl rfl HJ6.out rfl (by simp only [List.setIfInBounds_toArray, List.set_cons_succ, List.set_cons_zero]; rfl) ?_
      first
        | refine pl_get (i := 9) rfl rfl HJ6.out rfl (fun u hu => by (try dsimp only at hu); go_simp; rfl) (by simp only [List.setIfInBounds_toArray, List.set_cons_succ, List.set_cons_zero]; rfl) ?_
        | refine pl_skip (i := 9) rfl rfl HJ6.out rfl (by simp only [List.setIfInBounds_toArray, List.set_cons_succ, List.set_cons_zero]; rfl) ?_
      first
        | refine pl_get (i := 10) rfl rfl HJ6.out rfl (fun u hu => by (try dsimp only at hu); go_simp; rfl) (by simp only [List.setIfInBounds_toArray, List.set_cons_succ, List.set_cons_zero]; rfl) ?_
        | refine pl_skip (i := 10) rfl rfl HJ6.out rfl (by simp only [List.setIfInBounds_toArray, List.set_cons_succ, List.set_cons_zero]; rfl) ?_
      first
        | refine pl_get (i := 11) rfl rfl HJ6.out rfl (fun u hu => by (try dsimp only at hu); go_simp; rfl) (by simp only [List.setIfInBounds_toArray, List.set_cons_succ, List.set_cons_zero]; rfl) ?_
        | refine pl_skip (i := 11) rfl rfl HJ6.out rfl (by simp only [List.setIfInBounds_toArray, List.set_cons_succ, List.set_cons_zero]; rfl) ?_
      first
        | refine pl_get (i := 12) rfl rfl HJ6.out rfl (fun u hu => by (try dsimp only at hu); go_simp; rfl) (by simp only [List.setIfInBounds_toArray, List.set_cons_succ, List.set_cons_zero]; rfl) ?_
        | refine pl_skip (i := 12) rfl rfl HJ6.out rfl (by simp only [List.setIfInBounds_toArray, List.set_cons_succ, List.set_cons_zero]; rfl) ?_
      first
        | refine pl_get (i := 13) rfl rfl HJ6.out rfl (fun u hu => by (try dsimp only at hu); go_simp; rfl) (by simp only [List.setIfInBounds_toArray, List.set_cons_succ, List.set_cons_zero]; rfl) ?_
        | refine pl_skip (i := 13) rfl rfl HJ6.out rfl (by simp only [List.setIfInBounds_toArray, List.set_cons_succ, List.set_cons_zero]; rfl) ?_
      first
        | refine pl_get (i := 14) rfl rfl HJ6.out rfl (fun u hu => by (try dsimp only at hu); go_simp; rfl) (by simp only [List.setIfInBounds_toArray, List.set_cons_succ, List.set_cons_zero]; rfl) ?_
        | refine pl_skip (i := 14) rfl rfl HJ6.out rfl (by simp only [List.setIfInBounds_toArray, List.set_cons_succ, List.set_cons_zero]; rfl) ?_
      first
        | refine pl_get (i := 15) rfl rfl HJ6.out rfl (fun u hu => by (try dsimp only at hu); go_simp; rfl) (by simp only [List.setIfInBounds_toArray, List.set_cons_succ, List.set_cons_zero]; rfl) ?_
        | refine pl_skip (i := 15) rfl rfl HJ6.out rfl (by simp only [List.setIfInBounds_toArray, List.set_cons_succ, List.set_cons_zero]; rfl) ?_
      first
        | refine pl_get (i := 16) rfl rfl HJ6.out rfl (fun u hu => by (try dsimp only at hu); go_simp; rfl) (by simp only [List.setIfInBounds_toArray, List.set_cons_succ, List.set_cons_zero]; rfl) ?_
        | refine pl_skip (i := 16) rfl rfl HJ6.out rfl (by simp only [List.setIfInBounds_toArray, List.set_cons_succ, List.set_cons_zero]; rfl) ?_
      first
        | refine pl_get (i := 17) rfl rfl HJ6.out rfl (fun u hu => by (try dsimp only at hu); go_simp; rfl) (by simp only [List.setIfInBounds_toArray, List.set_cons_succ, List.set_cons_zero]; rfl) ?_
        | refine pl_skip (i := 17) rfl rfl HJ6.out rfl (by simp only [List.setIfInBounds_toArray, List.set_cons_succ, List.set_cons_zero]; rfl) ?_
      first
        | refine pl_get (i := 18) rfl rfl HJ6.out rfl (fun u hu => by (try dsimp only at hu); go_simp; rfl) (by simp only [List.setIfInBounds_toArray, List.set_cons_succ, List.set_cons_zero]; rfl) ?_
        | refine pl_skip (i := 18) rfl rfl HJ6.out rfl (by simp only [List.setIfInBounds_toArray, List.set_cons_succ, List.set_cons_zero]; rfl) ?_
      first
        | refine pl_get (i := 19) rfl rfl HJ6.out rfl (fun u hu => by (try dsimp only at hu); go_simp; rfl) (by simp only [List.setIfInBounds_toArray, List.set_cons_succ, List.set_cons_zero]; rfl) ?_
        | refine pl_skip (i := 19) rfl rfl HJ6.out rfl (by simp only [List.setIfInBounds_toArray, List.set_cons_succ, List.set_cons_zero]; rfl) ?_
      first
        | refine pl_get (i := 20) rfl rfl HJ6.out rfl (fun u hu => by (try dsimp only at hu); go_simp; rfl) (by simp only [List.setIfInBounds_toArray, List.set_cons_succ, List.set_cons_zero]; rfl) ?_
        | refine pl_skip (i := 20) rfl rfl HJ6.out rfl (by simp only [List.setIfInBounds_toArray, List.set_cons_succ, List.set_cons_zero]; rfl) ?_
      first
        | refine pl_get (i := 21) rfl rfl HJ6.out rfl (fun u hu => by (try dsimp only at hu); go_simp; rfl) (by simp only [List.setIfInBounds_toArray, List.set_cons_succ, List.set_cons_zero]; rfl) ?_
        | refine pl_skip (i := 21) rfl rfl HJ6.out rfl (by simp only [List.setIfInBounds_toArray, List.set_cons_succ, List.set_cons_zero]; rfl) ?_
      first
        | refine pl_get (i := 22) rfl rfl HJ6.out rfl (fun u hu => by (try dsimp only at hu); go_simp; rfl) (by simp only [List.setIfInBounds_toArray, List.set_cons_succ, List.set_cons_zero]; rfl) ?_
        | refine pl_skip (i := 22) rfl rfl HJ6.out rfl (by simp only [List.setIfInBounds_toArray, List.set_cons_succ, List.set_cons_zero]; rfl) ?_
      first
        | refine pl_get (i := 23) rfl rfl HJ6.out rfl (fun u hu => by (try dsimp only at hu); go_simp; rfl) (by simp only [List.setIfInBounds_toArray, List.set_cons_succ, List.set_cons_zero]; rfl) ?_
        | refine pl_skip (i := 23) rfl rfl HJ6.out rfl (by simp only [List.setIfInBounds_toArray, List.set_cons_succ, List.set_cons_zero]; rfl) ?_
      first
        | refine pl_get (i := 24) rfl rfl HJ6.out rfl (fun u hu => by (try dsimp only at hu); go_simp; rfl) (by simp only [List.setIfInBounds_toArray, List.set_cons_succ, List.set_cons_zero]; rfl) ?_
        | refine pl_skip (i := 24) rfl rfl HJ6.out rfl (by simp only [List.setIfInBounds_toArray, List.set_cons_succ, List.set_cons_zero]; rfl) ?_
      refine pl_one (i := 25) rfl ?_
      go_wp2_with ((go_at_call 12; refine (set_any tb mb 1000 (mputs zb k) u ua ur _ HB6.out Hy.out (mputs_rise zb k) (by unfold maxLen; omega) true (decide_eq_true (Or.inr (by omega))) B' (by rw [msetM_ok (by omega), Hpb.out])).mono ?_; rintro _ w7 ⟨rfl, T7, k7⟩))
      have hbm2 : b ≠ mb := by have := HOB.out.lo2; omega
      have HJ7 := Lib.hid (show w7.cell? ⟨b, off + j * 4 + 1, none⟩ = some (.string u) ∧ w7.cell? ⟨b, off + j * 4 + 2, none⟩ = some (.int .i64 ua) ∧ w7.cell? ⟨b, off + j * 4 + 3, none⟩ = some (.int .i64 ur) from ⟨k7.some HJ6.out.1 (fun e => hbm2 e), k7.some HJ6.out.2.1 (fun e => hbm2 e), k7.some HJ6.out.2.2 (fun e => hbm2 e)⟩)
      have HD7 := Lib.hid (show Tab w7 ta ma 1000 A' ∧ Tab w7 tb mb 1000 B' ∧ Keep NoB w w7 from ⟨HT6.out.keep k7 (fun e => HOB.out.a e) (fun e => HOB.out.m e), T7, HK6.out.trans' k7 hob.out⟩)
      clear T7 k7 HJ6 HT6 HB6 HK6
      refine pl_next (fun _ => HJ7.out) ?_
      refine pl_done ?_
      clear HJ7
      go_wp2_with fail
      go_roundw
      case rel => exact ⟨k + 1, hgo, by go_num, ⟨by rw [HA'.out]; exact HD7.out.1, by rw [HB'.out]; exact HD7.out.2.1, HD7.out.2.2⟩⟩
      case measure => simp [intOf]; omega
    · have hd : decide ((k : Int) < (n : Int)) = false := decide_eq_false (by omega)
      obtain rfl : k = n := by omega
      have hM : mputs zb k = mputs za k := Hback.out
      obtain ⟨M, hMM⟩ : ∃ l, mputs za k = l := ⟨_, rfl⟩
      have hlM := mputs_len za k
      have hrM := mputs_rise za k
      have HA := Lib.hid D.A
      have HB := Lib.hid D.B
      have HK := Lib.hid D.hk
      rw [hM] at HB
      rw [hMM] at HA HB hlM hrM
      have Hr := Lib.hid hrM
      clear D hM hMM hrM hgo
      go_wp2_with fail
      refine (all_any ta ma 1000 M _ HA.out (by omega) Hr.out).mono ?_
      rintro _ w4 ⟨aa, ac, rfl, Oa, ka⟩
      go_wp2_with fail
      refine (all_any tb mb 1000 M _ (HB.out.keep ka (fun h => h) (fun h => h)) (by omega) Hr.out).mono ?_
      rintro _ w5 ⟨ba, bc, rfl, Ob, kb⟩
      have HOa := Lib.hid (Oa.keep kb (fun _ _ h => h))
      have HOb := Lib.hid Ob
      have HA5 := Lib.hid (HA.out.keep (ka.trans kb) (fun h => h) (fun h => h))
      have HK5 := Lib.hid (HK.out.trans (ka.trans kb))
      clear Oa Ob ka kb HA HB HK
      go_wp2_with fail
      refine (len_any ta ma 1000 M _ HA5.out).mono ?_
      rintro _ w6 ⟨rfl, rfl⟩
      go_wp2_with fail
      go_loopw [85] (fun i wx => ∃ m : Nat, m ≤ M.length ∧ i = .int .i64 m ∧ Keep NoB w6 wx) (fun i _ => M.length - (intOf i).toNat)
      case atStart => exact ⟨0, Nat.zero_le _, rfl, Keep.refl _ _⟩
      case round =>
        obtain ⟨m, hm, rfl, km⟩ := hrel
        by_cases hml : m < M.length
        · obtain ⟨x, hx⟩ : ∃ x, M[m]? = some x := ⟨_, List.getElem?_eq_getElem hml⟩
          have Oax := HOa.out.keep km (fun _ _ h => h)
          have Obx := HOb.out.keep km (fun _ _ h => h)
          obtain ⟨g, cg, hvv, hg1, hg2, hcx⟩ := Oax.cells mCells_len hx
          cases hvv
          obtain ⟨g', cg', hvv', hg1', hg2', hcx'⟩ := Obx.cells mCells_len hx
          cases hvv'
          have r0 := hcx 0 _ rfl
          have r1 := hcx 1 _ rfl
          have r2 := hcx 2 _ rfl
          have q0 := hcx' 0 _ rfl
          have q1 := hcx' 1 _ rfl
          have q2 := hcx' 2 _ rfl
          simp only [Nat.add_zero] at r0 q0
          have Hkm := Lib.hid km
          have Hx := Lib.hid hx
          obtain ⟨x0, x1, x2⟩ := x
          simp at r0 r1 r2 q0 q1 q2
          clear hcx hcx' Oax Obx hx km
          by_cases h0 : m = 0
          · have e0 : ((m : Int) == 0) = true := by simpa using h0
            clear h0
            go_wp2_with fail
            go_quiet (fail)
            go_wp2_with fail
            go_roundw
            case rel => exact ⟨m + 1, hml, by go_num, Hkm.out.drewN _⟩
            case measure => simp [intOf]; omega
          · have e0 : ((m : Int) == 0) = false := by simpa using h0
            obtain ⟨j, hj⟩ : ∃ j, m - 1 = j := ⟨_, rfl⟩
            have hjl : j < M.length := by omega
            have pj : IntKind.i64.wrap ((m : Int) - 1) = (j : Int) := by rw [IntKind.wrap_i64]; omega
            obtain ⟨y, hy⟩ : ∃ y, M[j]? = some y := ⟨_, List.getElem?_eq_getElem hjl⟩
            have hml' : mlt y (x0, x1, x2) := rise_at Hr.out (by omega : j < m) hy Hx.out
            go_wp2_with fail
            go_quiet (fail)
            have kq : Keep NoB wr (wr.drewN nq) := (Keep.refl NoB wr).drewN nq
            have Hkq := Lib.hid (Hkm.out.trans kq)
            generalize wr.drewN nq = wq at kq Hkq ⊢
            clear r0 r1 r2 q0 q1 q2 kq
            have Oax := HOa.out.keep Hkq.out (fun _ _ h => h)
            obtain ⟨g1, cg1, hvv, hg1, hg2, hcx⟩ := Oax.cells mCells_len Hx.out
            cases hvv
            have r0 := hcx 0 _ rfl
            have r1 := hcx 1 _ rfl
            have r2 := hcx 2 _ rfl
            simp only [Nat.add_zero] at r0
            obtain ⟨g2, cg2, hvv, hg1, hg2, hcy⟩ := Oax.cells mCells_len hy
            cases hvv
            have s0 := hcy 0 _ rfl
            have s1 := hcy 1 _ rfl
            have s2 := hcy 2 _ rfl
            simp only [Nat.add_zero] at s0
            obtain ⟨y0, y1, y2⟩ := y
            simp at r0 r1 r2 s0 s1 s2
            clear hcx hcy Oax hy
            have hl3 : (bs y0 < bs x0) ∨ (y0 = x0 ∧ y1 < x1) ∨ (y0 = x0 ∧ y1 = x1 ∧ y2 < x2) := by
              rcases hml' with h | ⟨h1, h2 | ⟨h2, h3⟩⟩
              · exact Or.inl h
              · exact Or.inr (Or.inl ⟨h1, h2⟩)
              · exact Or.inr (Or.inr ⟨h1, h2, h3⟩)
            clear hml' hj h0
            rcases hl3 with h | ⟨rfl, h⟩ | ⟨rfl, rfl, h⟩
            · have f1 : Op.bytesLess x0.toList y0.toList = false := tx_nlt (fun h' => List.lt_irrefl (bs y0) (List.lt_trans h h'))
              have f3 : Op.bytesLess y0.toList x0.toList = true := tx_lt h
              have f2 : (y0.toList == x0.toList) = false := tx_ne (fun e => by rw [e] at h; exact List.lt_irrefl _ h)
              clear h
              go_wp2_with fail
              go_region
              all_goals
                go_wp2_with fail
                go_roundw
                case rel => exact ⟨m + 1, hml, by go_num, by (have Hkq' := Hkq.out; (repeat (with_reducible first | exact Keep.refl _ _ | assumption | refine Keep.alloc ?_ _ | refine Keep.drewN ?_ _ | refine Keep.drew ?_ | refine Keep.setCell ?_ (by first | (left; simp; done) | (left; simp; omega) | (right; simp [NoB, OneB, TwoB]; done)) _)))⟩
                case measure => simp [intOf]; omega
            · have f1 : Op.bytesLess y0.toList y0.toList = false := tx_nlt (List.lt_irrefl _)
              have f2 : decide (x1 < y1) = false := decide_eq_false (by omega)
              have f3 : (y1 == x1) = false := by simp; omega
              clear h
              go_wp2_with fail
              go_region
              all_goals
                go_wp2_with fail
                go_roundw
                case rel => exact ⟨m + 1, hml, by go_num, by (have Hkq' := Hkq.out; (repeat (with_reducible first | exact Keep.refl _ _ | assumption | refine Keep.alloc ?_ _ | refine Keep.drewN ?_ _ | refine Keep.drew ?_ | refine Keep.setCell ?_ (by first | (left; simp; done) | (left; simp; omega) | (right; simp [NoB, OneB, TwoB]; done)) _)))⟩
                case measure => simp [intOf]; omega
            · have f1 : Op.bytesLess y0.toList y0.toList = false := tx_nlt (List.lt_irrefl _)
              have f2 : decide (x2 ≤ y2) = false := decide_eq_false (by omega)
              have f4 : decide (y1 < y1) = false := decide_eq_false (by omega)
              have f5 : (y1 == y1) = true := by simp
              clear h
              go_wp2_with fail
              go_region
              all_goals
                go_wp2_with fail
                go_roundw
                case rel => exact ⟨m + 1, hml, by go_num, by (have Hkq' := Hkq.out; (repeat (with_reducible first | exact Keep.refl _ _ | assumption | refine Keep.alloc ?_ _ | refine Keep.drewN ?_ _ | refine Keep.drew ?_ | refine Keep.setCell ?_ (by first | (left; simp; done) | (left; simp; omega) | (right; simp [NoB, OneB, TwoB]; done)) _)))⟩
                case measure => simp [intOf]; omega
        · have hd2 : decide ((m : Int) < (M.length : Int)) = false := decide_eq_false (by omega)
          have HKf := Lib.hid (HK5.out.trans km)
          clear km
          go_wp2
          go_ret
          exact ⟨rfl, HKf.out.below (fun _ _ h => h)⟩
end Go.Proofs.Ytgangbkompkidaa
