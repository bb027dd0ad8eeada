/- Owners of package ring. -/
import Derived.Test.YtopgepifakdpfaaDoorRingS
namespace Go.Proofs.YtopgepifakdpfaaDoor
open Go Go.RowKit Go.Maps Go.Sort
set_option maxRecDepth 100000

theorem search_any (w : World) (B M rb pb hb : Nat) (L : List BA) (S : List PT) (h : Int) (hR : RgD w B M rb L S) (hp : w.heap[pb]? = some (.cells #[.pointer (some ⟨rb, 0, none⟩)] 26)) (hh : w.heap[hb]? = some (.cells #[.int .u64 h] 57)) (hl : S.length ≤ 1000) :
    Calls Tryd.prog 24 #[.int .i64 (S.length : Int), .func (.func 25) #[] #[.pointer (some ⟨pb, 0, none⟩), .pointer (some ⟨hb, 0, none⟩)]] w fun e w' => e = .returned (.int .i64 ((S.countP (fun x => decide (x.1 < h)) : Nat) : Int)) ∧ Keep NoB w w' := by
  obtain ⟨h0, na, nc, sm, pa, pc, h1, h2, h3, h4, h5, _⟩ := hR
  have eg : ∀ args w, (callFunc 25 args).run Tryd.prog w = .ok (.enter 25 args) w := Go.Proofs.enters_of Tryd.func25 (by kernel_rfl) rfl
  have hcon := Any.sort_Search Tryd.search 25 #[.pointer (some ⟨pb, 0, none⟩), .pointer (some ⟨hb, 0, none⟩)] S.length (fun i => !decide ((S.toArray[i]!).1 < h)) w eg (by omega) (fun m os i hi => by
    obtain ⟨x, hx⟩ : ∃ x, S[i]? = some x := ⟨_, List.getElem?_eq_getElem hi⟩
    have K := keep_grow w m os
    have h3' := h3.keep K (fun _ _ h => h)
    obtain ⟨g, cg, hvv, _, _, hcx⟩ := h3'.cells pCells_len hx
    cases hvv
    have c0 := hcx 0 _ rfl
    have p0 := blk_cell (blk_keep hp K (fun h => h)) 0
    have q0 := blk_cell (blk_keep hh K (fun h => h)) 0
    have r4 := blk_cell (blk_keep h1 K (fun h => h)) 4
    simp at p0 q0 r4 c0
    have e : S.toArray[i]! = x := by
      obtain ⟨i1, i2⟩ := List.getElem?_eq_some_iff.1 hx
      rw [getElem!_pos S.toArray i (by simpa using i1)]
      simpa using i2
    have h6 := clo_any (grow (w.drewN m) os) pb hb rb g S.length pc i h x.1 hi ⟨p0, q0, r4, c0⟩ (!decide ((S.toArray[i]!).1 < h)) (by rw [e]; by_cases hx : x.1 < h <;> simp [hx] <;> omega)
    exact h6) (fun a b hab hb ha => by
    obtain ⟨x, hx⟩ : ∃ x, S[a]? = some x := ⟨_, List.getElem?_eq_getElem (by omega)⟩
    obtain ⟨y, hy⟩ : ∃ y, S[b]? = some y := ⟨_, List.getElem?_eq_getElem hb⟩
    have e : ∀ (i : Nat) (z : PT), S[i]? = some z → S.toArray[i]! = z := fun i z hz => by
      obtain ⟨i1, i2⟩ := List.getElem?_eq_some_iff.1 hz
      rw [getElem!_pos S.toArray i (by simpa using i1)]
      simpa using i2
    rw [e a x hx] at ha
    rw [e b y hy]
    have := s_le h5 hab hx hy
    simp only [Bool.not_eq_true', decide_eq_false_iff_not] at ha ⊢
    omega)
  change Calls Tryd.prog 24 _ _ _ at hcon
  have hc : (List.range S.length).countP (fun i => !(!decide ((S.toArray[i]!).1 < h))) = S.countP (fun x => decide (x.1 < h)) := by
    have := Lib.countP_range S.toArray (fun x : PT => decide (x.1 < h))
    simp only [List.size_toArray] at this
    rw [← this]
    simp
  rw [hc] at hcon
  refine hcon.mono ?_
  rintro _ _ ⟨rfl, q, os, rfl⟩
  exact ⟨rfl, keep_grow w q os⟩

def OwnersP (w : World) (B rb : Nat) (L : List BA) (key : BA) (n : Int) (e : Ending) (w' : World) : Prop :=
  ∃ (a : Option Addr) (c : Nat) (O O' : List BA), Ow (way pt (hash key)) L O ∧ O.take n.toNat = O' ∧ e = .returned (.slice a O'.length c) ∧ Own w' w.heap.size 9 1 cS (.slice a O'.length c) O' ∧ Rg w' B rb L ∧ Keep (OneB rb) w w'

set_option maxHeartbeats 8000000 in
theorem owners_some (w : World) (B rb : Nat) (L : List BA) (hB : B ≤ w.heap.size) (hR : Rg w B rb L) (hL : L.length ≤ 8) (hLr : RiseB L) (hL0 : L ≠ []) (hsz : ∀ x ∈ L, x.size ≤ 140737488355328) (key : BA) (hks : key.size ≤ maxLen) (n : Int) :
    Calls Tryd.prog 12 #[.pointer (some ⟨rb, 0, none⟩), .string key, .int .i64 n] w (OwnersP w B rb L key n) := by
  have HR := Lib.hid hR
  have Hsz := Lib.hid hsz
  have HLr := Lib.hid hLr
  obtain ⟨h, hh⟩ : ∃ q, hash key = q := ⟨_, rfl⟩
  have Hh := Lib.hid hh
  have hrbw : rb < w.heap.size := by obtain ⟨_, na, nc, dn, sm, pa, pc, P, h1, _⟩ := hR; exact blk_lt h1
  have hl0 : ¬ L.length = 0 := fun e => hL0 (List.eq_nil_of_length_eq_zero e)
  have hl1 : ((L.length : Int) == 0) = false := by simp; exact hL0
  have hmf : ∀ (fn : Fn) (first cap : Array Value) (w : World), (Instr.makeFunc fn first cap).run Tryd.prog w = .ok (.func fn first cap) w := fun _ _ _ _ => rfl
  obtain ⟨hB1, na, nc, dn, sm, pa, pc, P, h1, _⟩ := hR
  have k0 := (Keep.refl NoB w).alloc (.cells #[.pointer (some ⟨rb, 0, none⟩)] 26)
  have p0 := blk_new w (.cells #[.pointer (some ⟨rb, 0, none⟩)] 26)
  have c0 := blk_cell h1 0
  simp at c0
  have Hp0 := Lib.hid p0
  have Hk0 := Lib.hid k0
  have HR0 := Lib.hid (HR.out.keep0 k0)
  clear hsz hLr hh h1 p0 k0 hL0
  go_enter Tryd.func12, Tryd.ntmps12
  go_wp2_with fail
  refine wp_region_pl (fun u => u.cell? ⟨w.heap.size, 0, none⟩ = some (.pointer (some ⟨rb, 0, none⟩))) [] (.rd 0 (.rd 1 (.rd 2 (.rd 3 (.rd 4 (.one 5 .done)))))) (by kernel_rfl) (by kernel_rfl) (by kernel_rfl) (by kernel_rfl) (by intro c b d v u h; cases d <;> exact h) ?_
  have kd := (Keep.refl NoB (w.alloc (.cells #[.pointer (some ⟨rb, 0, none⟩)] 26))).drew
  have Hp1 := Lib.hid (blk_keep Hp0.out kd (fun h => h))
  have Hk1 := Lib.hid (Hk0.out.trans kd)
  have HR1 := Lib.hid (HR0.out.keep0 kd)
  obtain ⟨pb, hpb⟩ : ∃ q, w.heap.size = q := ⟨_, rfl⟩
  rw [hpb] at Hp1 ⊢
  have Hpb := Lib.hid hpb
  clear c0 kd Hp0 Hk0 HR0 hpb
  generalize (World.alloc w (.cells #[.pointer (some ⟨rb, 0, none⟩)] 26)).drew = w1 at Hp1 Hk1 HR1 ⊢
  have hk1s : w.heap.size ≤ w1.heap.size := Hk1.out.size
  have c1 := blk_cell Hp1.out 0
  simp at c1
  have HS1 := Lib.hid c1
  clear c1
  first
    | refine pl_get (i := 0) rfl rfl HS1.out rfl (fun u hu => by (try dsimp only at hu); go_simp; rfl) (by simp only [List.setIfInBounds_toArray, List.set_cons_succ, List.set_cons_zero]; rfl) ?_
    | refine pl_skip (i := 0) rfl rfl HS1.out rfl (by simp only [List.setIfInBounds_toArray, List.set_cons_succ, List.set_cons_zero]; rfl) ?_
  first
    | refine pl_get (i := 1) rfl rfl HS1.out rfl (fun u hu => by (try dsimp only at hu); go_simp; rfl) (by simp only [List.setIfInBounds_toArray, List.set_cons_succ, List.set_cons_zero]; rfl) ?_
    | refine pl_skip (i := 1) rfl rfl HS1.out rfl (by simp only [List.setIfInBounds_toArray, List.set_cons_succ, List.set_cons_zero]; rfl) ?_
  first
    | refine pl_get (i := 2) rfl rfl HS1.out rfl (fun u hu => by (try dsimp only at hu); go_simp; rfl) (by simp only [List.setIfInBounds_toArray, List.set_cons_succ, List.set_cons_zero]; rfl) ?_
    | refine pl_skip (i := 2) rfl rfl HS1.out rfl (by simp only [List.setIfInBounds_toArray, List.set_cons_succ, List.set_cons_zero]; rfl) ?_
  first
    | refine pl_get (i := 3) rfl rfl HS1.out rfl (fun u hu => by (try dsimp only at hu); go_simp; rfl) (by simp only [List.setIfInBounds_toArray, List.set_cons_succ, List.set_cons_zero]; rfl) ?_
    | refine pl_skip (i := 3) rfl rfl HS1.out rfl (by simp only [List.setIfInBounds_toArray, List.set_cons_succ, List.set_cons_zero]; rfl) ?_
  first
    | refine pl_get (i := 4) rfl rfl HS1.out rfl (fun u hu => by (try dsimp only at hu); go_simp; rfl) (by simp only [List.setIfInBounds_toArray, List.set_cons_succ, List.set_cons_zero]; rfl) ?_
    | refine pl_skip (i := 4) rfl rfl HS1.out rfl (by simp only [List.setIfInBounds_toArray, List.set_cons_succ, List.set_cons_zero]; rfl) ?_
  refine pl_one (i := 5) rfl ?_
  go_wp2_with ((go_at_call 21; refine (do_any _ B rb L (Nat.le_trans hB Hk1.out.size) HR1.out hL Hsz.out).mono ?_; rintro _ w2 ⟨rfl, S, hR2, k2⟩))
  have hpr : pb ≠ rb := by have := Hpb.out; omega
  have Hp2 := Lib.hid (blk_keep Hp1.out k2 (fun e => hpr e))
  have HR2 := Lib.hid hR2
  have Hs2 := Lib.hid k2.size
  have Hk2 := Lib.hid (Hk1.out.none.trans k2 : Keep (OneB rb) w w2)
  clear k2 hR2 Hp1 HR1 Hk1 HS1
  have c2 := blk_cell Hp2.out 0
  have cl2 := blk_lt Hp2.out
  simp at c2
  refine pl_next (fun _ => c2) ?_
  refine pl_done ?_
  go_wp2_with fail
  refine (hash_any key _ hks h Hh.out).mono ?_
  rintro _ w3 ⟨rfl, rfl⟩
  have k3 := (Keep.refl NoB w2).alloc (.cells #[.int .u64 h] 57)
  have HR3 := Lib.hid (HR2.out.keep0 k3)
  have Hs4 := Lib.hid k3.size
  have Hp3 := Lib.hid (blk_keep Hp2.out k3 (fun h => h))
  have Hh3 := Lib.hid (blk_new w2 (.cells #[.int .u64 h] 57))
  have Hk3 := Lib.hid (Hk2.out.trans k3.none)
  have hrs := HR2.out
  obtain ⟨_, na2, nc2, sm2, pa2, pc2, r1, r2, r3, r4, r5, _⟩ := hrs
  have rc := blk_cell r1 4
  have rl := blk_lt r1
  simp at rc
  have hS := r4.length_eq
  rw [pts_len] at hS
  have hSl : S.length ≤ 128 := by omega
  have hS0 : 0 < S.length := by omega
  have Hr4 := Lib.hid (show S.Perm (pts pt L) ∧ S.Pairwise (fun x y => ltP y x = false) from ⟨r4, r5⟩)
  clear r1 r2 r3 r4 r5 k3 hS
  go_wp2_with fail
  generalize World.alloc w2 (.cells #[.int .u64 h] 57) = w4 at HR3 Hp3 Hh3 Hk3 Hs4 ⊢
  generalize w2.heap.size = hb at Hh3 ⊢
  clear HR2 Hp2 Hk2 c2 cl2 rc rl
  refine (search_any w4 B _ rb pb hb L S h HR3.out Hp3.out Hh3.out (by omega)).mono ?_
  rintro _ w5 ⟨rfl, k5⟩
  have HR5 := Lib.hid (HR3.out.keep0 k5)
  have Hp5 := Lib.hid (blk_keep Hp3.out k5 (fun h => h))
  have Hk5 := Lib.hid (Hk3.out.trans k5.none)
  have H15 := Lib.hid (Nat.le_trans (Nat.le_trans Hs2.out Hs4.out) k5.size)
  have H05 := Lib.hid (Nat.le_trans hk1s H15.out)
  clear HR3 Hp3 Hh3 Hk3 k5
  obtain ⟨fr, hfr⟩ : ∃ q, S.countP (fun x => decide (x.1 < h)) = q := ⟨_, rfl⟩
  have hfl : fr ≤ S.length := by rw [← hfr]; exact List.countP_le_length
  rw [hfr]
  have Hfr := Lib.hid hfr
  obtain ⟨NS, hNS⟩ : ∃ l, (rot h S).map (·.2) = l := ⟨_, rfl⟩
  have HNS := Lib.hid hNS
  have hNl : NS.length = S.length := by rw [← hNS, List.length_map, rot_len]
  have HNl := Lib.hid hNl
  clear hfr hNS hNl
  go_wp2_with fail
  go_loopw [7, 10] (fun ov iv wr => ∃ (i : Nat) (a : Option Addr) (c : Nat) (F : List BA), i ≤ S.length ∧ iv = .int .i64 (i : Int) ∧ ov = .slice a F.length c ∧ dd [] (NS.take i) = F ∧ F.length ≤ n.toNat ∧ F.length ≤ i ∧ Own wr w5.heap.size 9 1 cS (.slice a F.length c) F ∧ RgD wr B w1.heap.size rb L S ∧ w5.heap.size ≤ wr.heap.size ∧ wr.heap[pb]? = some (.cells #[.pointer (some ⟨rb, 0, none⟩)] 26) ∧ Keep (OneB rb) w wr) (fun _ iv _ => S.length - (intOf iv).toNat)
  case atStart => exact ⟨0, none, 0, [], Nat.zero_le _, rfl, rfl, by rw [List.take_zero, dd_nil], Nat.zero_le _, Nat.le_refl _, Own.nil _ _ _ _ _, HR5.out, Nat.le_refl _, Hp5.out, Hk5.out⟩
  case round =>
    clear HR5 Hp5 Hk5
    obtain ⟨i, a, c, F, hi, rfl, rfl, hF, hFn, hFi, O, hRr, h5r, hpr, hkr⟩ := hrel
    have H5r := Lib.hid h5r
    have HF := Lib.hid hF
    have HO := Lib.hid O
    have HRr := Lib.hid hRr
    have Hpr := Lib.hid hpr
    have Hkr := Lib.hid hkr
    have cp := blk_cell hpr 0
    have clp := blk_lt hpr
    simp at cp
    obtain ⟨_, na3, nc3, sm3, pa3, pc3, r1, r2, r3, r4, r5, _⟩ := hRr
    have rc := blk_cell r1 4
    have rl := blk_lt r1
    simp at rc
    have Hr3 := Lib.hid r3
    clear hF O hpr hkr r1 r2 r3 r4 r5 h5r
    by_cases hgo : i < S.length ∧ (F.length : Int) < n
    · obtain ⟨hil, hfn⟩ := hgo
      have d1 : decide ((i : Int) < (S.length : Int)) = true := decide_eq_true (by omega)
      have d2 : decide ((F.length : Int) < n) = true := decide_eq_true hfn
      have hw1 : IntKind.i64.wrap ((i : Int) + 1) = (i : Int) + 1 := IntWalk.i64_in _ (by omega)
      have hw2 : IntKind.i64.wrap ((fr : Int) + (i : Int)) = (fr : Int) + (i : Int) := IntWalk.i64_in _ (by omega)
      obtain ⟨jx, hjx⟩ : ∃ q, (fr + i) % S.length = q := ⟨_, rfl⟩
      have hjl : jx < S.length := by rw [← hjx]; exact Nat.mod_lt _ hS0
      have hji : ((fr : Int) + (i : Int)) % (S.length : Int) = (jx : Int) := by rw [← hjx]; simp
      have hjt : Int.tmod ((fr : Int) + (i : Int)) (S.length : Int) = (jx : Int) := by rw [Int.tmod_eq_emod_of_nonneg (by omega)]; exact hji
      have hs1 : ¬ (S.length : Int) = 0 := by omega
      have hs2 : ¬ S.length = 0 := by omega
      obtain ⟨x, hx⟩ : ∃ x, S[jx]? = some x := ⟨_, List.getElem?_eq_getElem hjl⟩
      obtain ⟨g, cg, hvv, hg1, hg2, hcx⟩ := Hr3.out.cells pCells_len hx
      cases hvv
      have m0 := hcx 0 _ rfl
      have m1 := hcx 1 _ rfl
      simp only [Nat.add_zero] at m0
      have hnx : NS[i]? = some x.2 := by
        rw [← HNS.out, List.getElem?_map, rot_get Hr4.out.2 h i hil, Hfr.out, hjx, hx]
        rfl
      have hst := dd_take hnx
      rw [HF.out] at hst
      have Hst := Lib.hid hst
      obtain ⟨x1, x2⟩ := x
      simp only at m0 m1 Hst
      have hsz0 : ((S.length : Int) == 0) = false := by simp; intro e; rw [e] at hS0; exact absurd hS0 (by decide)
      have hj2 : (jx : Int) < (S.length : Int) := by omega
      have hj3 : (0 : Int) ≤ (jx : Int) := by omega
      have hj4 : ¬ (jx : Int) < 0 := by omega
      have hj5 : ((jx : Int)).toNat = jx := by omega
      clear hx hcx hnx hst hjx
      go_wp2_with fail
      refine wp_region_pl (fun u => u.cell? ⟨pb, 0, none⟩ = some (.pointer (some ⟨rb, 0, none⟩)) ∧ u.cell? ⟨rb, 4, none⟩ = some (.slice (some ⟨g, 0, none⟩) S.length pc3) ∧ u.cell? ⟨g, jx * 2, none⟩ = some (.int .u64 x1) ∧ u.cell? ⟨g, jx * 2 + 1, none⟩ = some (.string x2)) [16] (.rd 0 (.rd 1 (.rd 2 (.rd 3 (.rd 4 (.rd 5 (.rd 6 (.rd 7 (.rd 8 (.rd 9 (.rd 10 (.rd 11 (.rd 12 (.rd 13 (.rd 14 (.one 15 (.one 16 .done))))))))))))))))) (by kernel_rfl) (by kernel_rfl) (by kernel_rfl) (by kernel_rfl) (by intro c b d v u h; cases d <;> exact h) ?_
      have kd : Keep NoB wr wr.drew := (Keep.refl NoB wr).drew
      have HS6 := Lib.hid (show wr.drew.cell? ⟨pb, 0, none⟩ = some (.pointer (some ⟨rb, 0, none⟩)) ∧ wr.drew.cell? ⟨rb, 4, none⟩ = some (.slice (some ⟨g, 0, none⟩) S.length pc3) ∧ wr.drew.cell? ⟨g, jx * 2, none⟩ = some (.int .u64 x1) ∧ wr.drew.cell? ⟨g, jx * 2 + 1, none⟩ = some (.string x2) from ⟨cp, rc, m0, m1⟩)
      have HOd := Lib.hid (HO.out.keep kd (fun _ _ h => h))
      have HRd := Lib.hid (HRr.out.keep0 kd)
      have Hpd := Lib.hid (blk_keep Hpr.out kd (fun h => h))
      have Hkd := Lib.hid (Hkr.out.trans kd.none)
      have H5d := Lib.hid (Nat.le_trans H5r.out kd.size)
      clear kd cp rc m0 m1 HO HRr Hpr Hkr clp rl Hr3
      generalize wr.drew = wd at HS6 HOd HRd Hpd Hkd H5d ⊢
      first
        | refine pl_get (i := 0) rfl rfl HS6.out rfl (fun u hu => by (try dsimp only at hu); go_simp; rfl) (by simp only [List.setIfInBounds_toArray, List.set_cons_succ, List.set_cons_zero]; rfl) ?_
        | refine pl_skip (i := 0) rfl rfl HS6.out rfl (by simp only [List.setIfInBounds_toArray, List.set_cons_succ, List.set_cons_zero]; rfl) ?_
      first
        | refine pl_get (i := 1) rfl rfl HS6.out rfl (fun u hu => by (try dsimp only at hu); go_simp; rfl) (by simp only [List.setIfInBounds_toArray, List.set_cons_succ, List.set_cons_zero]; rfl) ?_
        | refine pl_skip (i := 1) rfl rfl HS6.out rfl (by simp only [List.setIfInBounds_toArray, List.set_cons_succ, List.set_cons_zero]; rfl) ?_
      first
        | refine pl_get (i := 2) rfl rfl HS6.out rfl (fun u hu => by (try dsimp only at hu); go_simp; rfl) (by simp only [List.setIfInBounds_toArray, List.set_cons_succ, List.set_cons_zero]; rfl) ?_
        | refine pl_skip (i := 2) rfl rfl HS6.out rfl (by simp only [List.setIfInBounds_toArray, List.set_cons_succ, List.set_cons_zero]; rfl) ?_
      first
        | refine pl_get (i := 3) rfl rfl HS6.out rfl (fun u hu => by (try dsimp only at hu); go_simp; rfl) (by simp only [List.setIfInBounds_toArray, List.set_cons_succ, List.set_cons_zero]; rfl) ?_
        | refine pl_skip (i := 3) rfl rfl HS6.out rfl (by simp only [List.setIfInBounds_toArray, List.set_cons_succ, List.set_cons_zero]; rfl) ?_
      first
        | refine pl_get (i := 4) rfl rfl HS6.out rfl (fun u hu => by (try dsimp only at hu); go_simp; rfl) (by simp only [List.setIfInBounds_toArray, List.set_cons_succ, List.set_cons_zero]; rfl) ?_
        | refine pl_skip (i := 4) rfl rfl HS6.out rfl (by simp only [List.setIfInBounds_toArray, List.set_cons_succ, List.set_cons_zero]; rfl) ?_
      first
        | refine pl_get (i := 5) rfl rfl HS6.out rfl (fun u hu => by (try dsimp only at hu); go_simp; rfl) (by simp only [List.setIfInBounds_toArray, List.set_cons_succ, List.set_cons_zero]; rfl) ?_
        | refine pl_skip (i := 5) rfl rfl HS6.out rfl (by simp only [List.setIfInBounds_toArray, List.set_cons_succ, List.set_cons_zero]; rfl) ?_
      first
        | refine pl_get (i := 6) rfl rfl HS6.out rfl (fun u hu => by (try dsimp only at hu); go_simp; rfl) (by simp only [List.setIfInBounds_toArray, List.set_cons_succ, List.set_cons_zero]; rfl) ?_
        | refine pl_skip (i := 6) rfl rfl HS6.out rfl (by simp only [List.setIfInBounds_toArray, List.set_cons_succ, List.set_cons_zero]; rfl) ?_
      first
        | refine pl_get (i := 7) rfl rfl HS6.out rfl (fun u hu => by (try dsimp only at hu); go_simp; rfl) (by simp only [List.setIfInBounds_toArray, List.set_cons_succ, List.set_cons_zero]; rfl) ?_
        | refine pl_skip (i := 7) rfl rfl HS6.out rfl (by simp only [List.setIfInBounds_toArray, List.set_cons_succ, List.set_cons_zero]; rfl) ?_
      first
        | refine pl_get (i := 8) rfl rfl HS6.out rfl (fun u hu => by (try dsimp only at hu); go_simp; rfl) (by simp only [List.setIfInBounds_toArray, List.set_cons_succ, List.set_cons_zero]; rfl) ?_
        | refine pl_skip (i := 8) rfl rfl HS6.out rfl (by simp only [List.setIfInBounds_toArray, List.set_cons_succ, List.set_cons_zero]; rfl) ?_
      first
        | refine pl_get (i := 9) rfl rfl HS6.out rfl (fun u hu => by (try dsimp only at hu); go_simp; rfl) (by simp only [List.setIfInBounds_toArray, List.set_cons_succ, List.set_cons_zero]; rfl) ?_
        | refine pl_skip (i := 9) rfl rfl HS6.out rfl (by simp only [List.setIfInBounds_toArray, List.set_cons_succ, List.set_cons_zero]; rfl) ?_
      first
        | refine pl_get (i := 10) rfl rfl HS6.out rfl (fun u hu => by (try dsimp only at hu); go_simp; rfl) (by simp only [List.setIfInBounds_toArray, List.set_cons_succ, List.set_cons_zero]; rfl) ?_
        | refine pl_skip (i := 10) rfl rfl HS6.out rfl (by simp only [List.setIfInBounds_toArray, List.set_cons_succ, List.set_cons_zero]; rfl) ?_
      first
        | refine pl_get (i := 11) rfl rfl HS6.out rfl (fun u hu => by (try dsimp only at hu); go_simp; rfl) (by simp only [List.setIfInBounds_toArray, List.set_cons_succ, List.set_cons_zero]; rfl) ?_
        | refine pl_skip (i := 11) rfl rfl HS6.out rfl (by simp only [List.setIfInBounds_toArray, List.set_cons_succ, List.set_cons_zero]; rfl) ?_
      first
        | refine pl_get (i := 12) rfl rfl HS6.out rfl (fun u hu => by (try dsimp only at hu); go_simp; rfl) (by simp only [List.setIfInBounds_toArray, List.set_cons_succ, List.set_cons_zero]; rfl) ?_
        | refine pl_skip (i := 12) rfl rfl HS6.out rfl (by simp only [List.setIfInBounds_toArray, List.set_cons_succ, List.set_cons_zero]; rfl) ?_
      first
        | refine pl_get (i := 13) rfl rfl HS6.out rfl (fun u hu => by (try dsimp only at hu); go_simp; rfl) (by simp only [List.setIfInBounds_toArray, List.set_cons_succ, List.set_cons_zero]; rfl) ?_
        | refine pl_skip (i := 13) rfl rfl HS6.out rfl (by simp only [List.setIfInBounds_toArray, List.set_cons_succ, List.set_cons_zero]; rfl) ?_
      first
        | refine pl_get (i := 14) rfl rfl HS6.out rfl (fun u hu => by (try dsimp only at hu); go_simp; rfl) (by simp only [List.setIfInBounds_toArray, List.set_cons_succ, List.set_cons_zero]; rfl) ?_
        | refine pl_skip (i := 14) rfl rfl HS6.out rfl (by simp only [List.setIfInBounds_toArray, List.set_cons_succ, List.set_cons_zero]; rfl) ?_
      refine pl_one (i := 15) rfl ?_
      go_wp2_with (fail)
      refine pl_next (fun _ => ks4 HS6.out ((Keep.refl NoB wd).alloc _)) ?_
      refine pl_one (i := 16) rfl ?_
      go_wp2_with (fail)
      refine pl_next (fun h => by cases h) ?_
      refine pl_done ?_
      have kx : Keep NoB wd (wd.alloc (.cells #[.int .u64 x1, .string x2] 61)) := (Keep.refl NoB wd).alloc _
      have HO6 := Lib.hid (HOd.out.keep kx (fun _ _ h => h))
      have HR6 := Lib.hid (HRd.out.keep0 kx)
      have Hp6 := Lib.hid (blk_keep Hpd.out kx (fun h => h))
      have Hk6 := Lib.hid (Hkd.out.trans kx.none)
      have H56 := Lib.hid (Nat.le_trans H5d.out kx.size)
      have b6 := blk_new wd (.cells #[.int .u64 x1, .string x2] 61)
      clear kx HOd HRd Hpd Hkd HS6
      generalize wd.alloc (.cells #[.int .u64 x1, .string x2] 61) = w6 at HO6 HR6 Hp6 Hk6 b6 H56 ⊢
      generalize wd.heap.size = qb at b6 ⊢
      have q1 := blk_cell b6 1
      have ql := blk_lt b6
      simp at q1
      obtain ⟨bb, hbb⟩ : ∃ q, decide (x2 ∈ F) = q := ⟨_, rfl⟩
      have Hbb := Lib.hid hbb
      have hFl : F.length ≤ 128 := by omega
      clear hbb
      go_wp2_with fail
      refine (contains_any w6 a c F x2 (rds_own HO6.out) (by omega) bb Hbb.out).mono ?_
      rintro _ w7 ⟨rfl, rfl⟩
      cases bb
      · have hnx : ¬ x2 ∈ F := of_decide_eq_false Hbb.out
        have e1 := Hst.out
        rw [if_neg hnx] at e1
        obtain ⟨F', hF'⟩ : ∃ l, F ++ [x2] = l := ⟨_, rfl⟩
        have hl' : F'.length = F.length + 1 := by rw [← hF']; simp
        have HF' := Lib.hid hF'
        have Hl' := Lib.hid hl'
        rw [hF'] at e1
        have He1 := Lib.hid e1
        have hws : w5.heap.size ≤ w6.heap.size := H56.out
        clear hF' e1 hnx hl'
        go_wp2_with (at_builtin; refine wpList_append_one (B := w5.heap.size) rfl (.tmp 72) (.tmp 75) 22 rfl Tryd.underlying22 info9' (by kernel_rfl) (by decide) (by decide) rfl (HO6.out.alloc (.cells #[.string x2] 9)) cS_len x2 rfl (c := #[.string x2]) (t' := 9) (f := (0, 0)) (blk_new w6 _) rfl (cS_one _) (by omega) (by simp; omega) HF'.out ?_; intro a8 c8 w8 O8 k8; have HO8 := Lib.hid O8; have hk8 := (((Keep.refl NoB w6).alloc (.cells #[.string x2] 9)).none).trans k8; have HR8 := Lib.hid (HR6.out.keepO (HO6.out) hk8 H15.out); have Hp8 := Lib.hid (blk_keep Hp6.out hk8 (fun e => HO6.out.ne Hp6.out (by decide) pb e rfl)); have Hk8 := Lib.hid (Hk6.out.trans' hk8 (fun i hi e => by have := HO6.out.fresh i e; have := H05.out; omega)); have H58 := Lib.hid (Nat.le_trans H56.out hk8.size); clear O8 k8 hk8)
        go_roundw
        case rel => exact ⟨i + 1, a8, c8, F', hil, by go_num, rfl, He1.out, by have := Hl'.out; omega, by have := Hl'.out; omega, HO8.out, HR8.out, H58.out, Hp8.out, Hk8.out⟩
        case measure => simp [intOf]; omega
      · have hnx : x2 ∈ F := of_decide_eq_true Hbb.out
        have e1 := Hst.out
        rw [if_pos hnx] at e1
        have He1 := Lib.hid e1
        clear e1 hnx
        go_wp2_with fail
        go_roundw
        case rel => exact ⟨i + 1, a, c, F, hil, by go_num, rfl, He1.out, hFn, by omega, HO6.out, HR6.out, H56.out, Hp6.out, Hk6.out⟩
        case measure => simp [intOf]; omega
    · have hfin : F = (dd [] NS).take n.toNat := by
        have h1 := HF.out
        by_cases hil : i < S.length
        · have h2 : ¬ (F.length : Int) < n := fun e => hgo ⟨hil, e⟩
          have h3 : (dd [] (NS.take i)).length = n.toNat := by rw [h1]; omega
          rw [← h1]
          exact dd_begin NS i n.toNat h3
        · have h2 : NS.take i = NS := List.take_of_length_le (by have := HNl.out; omega)
          rw [h2] at h1
          rw [h1, List.take_of_length_le hFn]
      have hOw : Ow (way pt h) L (dd [] NS) := by
        rw [← HNS.out]
        exact ring_ow pt_rng HLr.out.nodup Hr4.out.1 Hr4.out.2 (by rw [← Hh.out]; exact hash_rng _)
      have HOw := Lib.hid hOw
      have Hfin := Lib.hid hfin
      have hd : (¬ i < S.length) ∨ (i < S.length ∧ ¬ (F.length : Int) < n) := by
        by_cases hil : i < S.length
        · exact Or.inr ⟨hil, fun e => hgo ⟨hil, e⟩⟩
        · exact Or.inl hil
      clear hfin hOw hgo
      rcases hd with d1 | ⟨d1, d2⟩
      all_goals
        go_wp2_with fail
        go_ret
        exact ⟨a, c, dd [] NS, F, by rw [Hh.out]; exact HOw.out, Hfin.out.symm, rfl, HO.out.mono H05.out, HRr.out.rg, Hkr.out⟩
end Go.Proofs.YtopgepifakdpfaaDoor
