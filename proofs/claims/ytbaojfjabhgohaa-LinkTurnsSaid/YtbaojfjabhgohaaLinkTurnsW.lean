/- The walk of LinkTurns. -/
import Derived.Test.YtbaojfjabhgohaaLinkTurnsQ
import Derived.OpenShut
namespace Go.Proofs.Ytbaojfjabhgohaa
open Go Go.RowKit Go.Maps

theorem info9' : (Try.prog.info? 9).map (fun i => (i.zero, i.size, i.bytes)) = some (some (.string ⟨#[]⟩), 1, 16) := by kernel_rfl
theorem flat_rep (s : ByteArray) : ∀ n, (List.replicate n s).flatMap cS = List.replicate n (Value.string s)
  | 0 => rfl
  | n + 1 => by simp [List.replicate_succ, cS, flat_rep s n]
theorem own_made {w : World} {B n : Nat} {v : Value} (h : w.ownsRow B 9 1 v n (madeCells (Value.string ⟨#[]⟩).cells (n * 1)).toList) : Own w B 9 1 cS v (List.replicate n ⟨#[]⟩) := by
  unfold Own
  rw [flat_rep, List.length_replicate]
  have e : (madeCells (Value.string ⟨#[]⟩).cells (n * 1)).toList = List.replicate n (Value.string ⟨#[]⟩) := by
    rw [Nat.mul_one]
    exact toList_madeCells_one _ _
  rw [e] at h
  exact h

theorem len_eq {w : World} {B nb : Nat} {a : Option Addr} {cap : Nat} {room sent : Int} {N : List HE} (T : Net w B nb a cap room sent N) (n : Int) (hn : (N.length : Int) = n) :
    Calls Try.prog 12 #[.pointer (some ⟨nb, 0, none⟩)] w fun e w' => e = .returned (.int .i64 n) ∧ w' = w := by
  subst hn
  exact len_any B nb a cap room sent N w T

theorem idx_str (w : World) (l : List UInt8) (i : Nat) (v : UInt8) (h : l[i]? = some v) : (Instr.index 9 (.string ⟨l.toArray⟩) (.int .i64 (i : Int))).run Try.prog w = .ok (.int .u8 (v.toNat : Nat)) w := by
  obtain ⟨hi, rfl⟩ := List.getElem?_eq_some_iff.1 h
  rw [run_index_string w 9 ⟨l.toArray⟩ .i64 i Try.underlying9, dif_pos ⟨by omega, by simp [ByteArray.size]; omega⟩]
  simp [ByteArray.get!, ByteArray.getElem_eq_getElem_data]


set_option maxRecDepth 100000 in
set_option maxHeartbeats 20000000 in
theorem turns_walk (a0 : Option Addr) (len0 cap0 : Nat) (z : Nat → TX) (p q : Int) (b0 b1 : UInt8) (w : World) (h0 : IsTx w a0 len0 z) :
    Calls Try.prog 6 #[.slice a0 len0 cap0, .agg #[.int .i64 p, .int .i64 q], .agg #[.int .u8 b0.toNat, .int .u8 b1.toNat]] w fun e w' => e = .returned (.bool true) ∧ Below w.heap.size w w' := by
  have H0 := Lib.hid h0
  clear h0
  obtain ⟨i9, hi, hz, hs1, hs2⟩ := info_parts info9'
  go_enter Try.func6, Try.ntmps6
  go_wp2_with fail
  refine (awake_any _).mono ?_
  rintro _ w1 ⟨rfl, k1⟩
  have K1 : Keep NoB w w1 := (((Keep.refl NoB w).alloc _).alloc _).trans k1
  have bA := blk_keep (blk_alloc (o' := .cells #[.int .u8 b0.toNat, .int .u8 b1.toNat] 57) (blk_new w (.cells #[.int .i64 p, .int .i64 q] 56))) k1 (fun h => h)
  have bB : w1.heap[w.heap.size + 1]? = some (.cells #[.int .u8 b0.toNat, .int .u8 b1.toNat] 57) := blk_keep (by have := blk_new (World.alloc w (.cells #[.int .i64 p, .int .i64 q] 56)) (.cells #[.int .u8 b0.toNat, .int .u8 b1.toNat] 57); simpa using this) k1 (fun h => h)
  have HA := Lib.hid bA
  have HB := Lib.hid bB
  have s1 := k1.size
  simp at s1
  clear k1 bA bB
  go_wp2_with fail
  refine (great_any a0 len0 cap0 z _ (H0.out.keep K1)).mono ?_
  rintro _ _ ⟨rfl, rfl | ⟨rfl, hsm⟩⟩
  · go_wp2
    go_ret
    exact ⟨rfl, K1.below (fun _ _ h => h)⟩
  have HSm := Lib.hid hsm
  have h100 := hsm.1
  clear hsm
  go_wp2_with (refine wpList_make_full _ rfl _ _ 58 rfl w1.heap.size 9 i9 (.string ⟨#[]⟩) 1 Try.underlying58 hi hz hs1 .i64 .i64 _ _ len0 rfl rfl rfl rfl (by rw [hs2]; omega) (by unfold maxLen; omega) (Nat.le_refl _) ?_; intro w2 O2 g2)
  have k2 : Keep NoB w1 w2 := Keep.of_grown g2 (fun k e => by cases e)
  have O2 := own_made O2
  have s2 := O2.lt w1.heap.size rfl
  clear g2
  go_loopw [27] (fun j wx => ∃ (k : Nat) (M : List ByteArray), k ≤ len0 ∧ j = .int .i64 k ∧ Own wx w1.heap.size 9 1 cS (.slice (some ⟨w1.heap.size, 0, none⟩) len0 len0) M ∧ M.length = len0 ∧ Was z k M ∧ Keep NoB w1 wx) (fun j _ => len0 - (intOf j).toNat)
  case atStart => exact ⟨0, _, Nat.zero_le _, rfl, O2, by simp, fun i hi => by omega, k2⟩
  case round =>
    obtain ⟨k, M, hk, rfl, OM, hM, hW, hkx⟩ := hrel
    have HM := Lib.hid hM
    have HW := Lib.hid hW
    have hMl : len0 ≤ M.length := by rw [hM]; exact Nat.le_refl _
    clear hM hW
    by_cases hlt : k < len0
    · obtain ⟨hmax, hok, hrow⟩ := (H0.out.keep K1).keep hkx
      rcases hrow with h | ⟨b, off, rfl, hb, hc⟩
      · omega
      have hcw := hc k hlt
      have hrd := (hok k hlt).1
      have HW2 := Lib.hid (was_set HW.out (by omega))
      clear hc hok hmax
      generalize hzk : z k = x at hcw hrd HW2
      clear hzk
      obtain ⟨xa, xc, xl⟩ := x
      simp only [TX.v] at hcw hrd HW2
      have hs3 := hrd.str
      obtain ⟨s, hs⟩ : ∃ s, M[k]? = some s := ⟨_, List.getElem?_eq_getElem (by omega)⟩
      obtain ⟨g, hv, hg1, hg2, m0, m1⟩ := OM.cell1 cS_len hs rfl
      cases hv
      clear hs
      go_wp2_with fail
      go_roundw
      case rel => exact ⟨k + 1, _, hlt, by go_num, OM.store cS_len k ⟨xl.toArray⟩ rfl, by rw [List.length_set]; exact HM.out, HW2.out, hkx.setCell (p := ⟨w1.heap.size, k, none⟩) (Or.inl (Nat.le_refl _)) _⟩
      case measure => simp [intOf]; omega
    · obtain rfl : k = len0 := by omega
      have HTX := Lib.hid ((H0.out.keep K1).keep hkx)
      go_wp2_with fail
      refine (packets_any a0 k cap0 z _ HTX.out HSm.out).mono ?_
      rintro _ w3 ⟨nb, a, cap, N, rfl, hnb, T3, hN, hP, k3⟩
      have HN := Lib.hid hN
      have HP := Lib.hid hP
      have OM3 := OM.keep k3 (fun _ _ h => h)
      have K3 : Keep NoB w w3 := (K1.trans hkx).trans k3
      have A3 := Lib.hid (blk_keep (blk_keep HA.out hkx (fun h => h)) k3 (fun h => h))
      have B3 := Lib.hid (blk_keep (blk_keep HB.out hkx (fun h => h)) k3 (fun h => h))
      have HTX3 := Lib.hid (HTX.out.keep k3)
      have s3 := k3.size
      have sx := hkx.size
      have l1 : N.length ≤ k := by rw [hN]; exact Nat.le_refl _
      have l2 : k ≤ N.length := by rw [hN]; exact Nat.le_refl _
      have p0 := blk_cell A3.out 0
      have p1 := blk_cell A3.out 1
      have p2 := blk_cell B3.out 0
      have p3 := blk_cell B3.out 1
      have p4 := blk_lt A3.out
      have p5 := blk_lt B3.out
      simp at p0 p1 p2 p3
      clear hN hP k3 hkx K1 O2 k2
      go_wp2_with fail
      refine (len_eq T3 (k : Int) (by have := HN.out; omega)).mono ?_
      rintro _ w4 ⟨rfl, rfl⟩
      go_wp2_with fail
      have HOM := Lib.hid OM3
      have HT3 := Lib.hid T3
      clear OM OM3 T3 HTX HA HB
      generalize w1.heap.size = sb at *
      generalize wr.heap.size = B at *
      by_cases hv : (0 ≤ p ∧ p < (k : Int)) ∧ (0 ≤ q ∧ q < ((z p.toNat).l.length : Int))
      · obtain ⟨⟨hv1, hv2⟩, hv3, hv4⟩ := hv
        obtain ⟨i, rfl⟩ : ∃ i : Nat, p = (i : Int) := ⟨p.toNat, by omega⟩
        obtain ⟨jq, rfl⟩ : ∃ jq : Nat, q = (jq : Int) := ⟨q.toNat, by omega⟩
        simp only [Int.toNat_natCast] at hv4
        have hik : i < k := by omega
        obtain ⟨x, hx⟩ : ∃ x, N[i]? = some x := ⟨_, List.getElem?_eq_getElem (by omega)⟩
        have hpx := HP.out i x hx
        have hxl : x.l = (z i).l := hpx.2.2.2
        have htn : x.tn = false := hpx.2.2.1
        obtain ⟨b, hb⟩ : ∃ b, x.l[jq]? = some b := ⟨_, List.getElem?_eq_getElem (by rw [hxl]; omega)⟩
        have hxr := (HT3.out.each x (List.mem_of_getElem? hx)).1
        refine (turn_ok B nb a cap 1000 k N i jq b0 b x w4 HT3.out hx hb htn).mono ?_
        rintro _ w5 ⟨rfl, T5, k5⟩
        have K5 : Keep NoB w w5 := K3.trans' k5 (fun j hj e => by rcases e with e | e; have := HT3.out.row.fresh j e; omega; have := hxr.fresh j e; omega)
        have A5 := Lib.hid (blk_keep A3.out k5 (fun e => by rcases e with e | e; exact HT3.out.row.ne A3.out (by decide) _ e rfl; exact hxr.ne A3.out (by decide) _ e rfl))
        have B5 := Lib.hid (blk_keep B3.out k5 (fun e => by rcases e with e | e; exact HT3.out.row.ne B3.out (by decide) _ e rfl; exact hxr.ne B3.out (by decide) _ e rfl))
        have OM5 := HOM.out.keep k5 (fun g hg e => by rcases e with e | e; exact HT3.out.row.ne_own HOM.out.row (by decide) g e hg; exact hxr.ne_own HOM.out.row (by decide) g e hg)
        have HTX5 := Lib.hid (H0.out.keep K5)
        have hi' : i < N.length := by omega
        have hx1 : (N.set i (x.turned jq (b ^^^ b0)))[i]? = some (x.turned jq (b ^^^ b0)) := List.getElem?_set_self hi'
        have HX1 := Lib.hid hx1
        have hNs : (N.set i (x.turned jq (b ^^^ b0))).length = N.length := List.length_set
        have p0 := blk_cell A5.out 0
        have p1 := blk_cell A5.out 1
        have p2 := blk_cell B5.out 0
        have p3 := blk_cell B5.out 1
        have p4 := blk_lt A5.out
        have p5 := blk_lt B5.out
        simp at p0 p1 p2 p3
        obtain ⟨hmax5, hok5, hrow5⟩ := HTX5.out
        rcases hrow5 with h | ⟨b5, off5, ha5, hb5, hc5⟩
        · omega
        cases ha5
        have hcw5 := hc5 i hik
        obtain ⟨va5, vc5, hva5⟩ : ∃ va vc, (z i).v = .slice va (z i).l.length vc := ⟨(z i).a, (z i).c, rfl⟩
        rw [hva5] at hcw5
        have d1 : decide (0 ≤ (i : Int)) = true := by simp
        have d2 : decide (i < k) = true := by simp; omega
        have d3 : decide (0 ≤ (jq : Int)) = true := by simp
        have d4 : decide (jq < (z i).l.length) = true := by simp; omega
        have HX0 := Lib.hid hx
        have Hxl := Lib.hid hxl
        have Hb := Lib.hid hb
        have Hl4 := Lib.hid hv4
        obtain ⟨L0, hL0⟩ : ∃ l, (z i).l.length = l := ⟨_, rfl⟩
        rw [hL0] at hcw5 d4
        have hjL : jq < L0 := by omega
        clear hok5 hmax5 hc5 hva5 hx hxl hb hv4 hpx htn hx1 k5 HT3 HOM HTX3 K3 A3 B3 hL0
        go_wp2_with fail
        go_quiet (fail)
        go_wp2_with fail
        have kV : Keep NoB w5 (World.drewN w5 nq) := (Keep.refl _ w5).drewN nq
        generalize World.drewN w5 nq = V at kV ⊢
        have TV := T5.keep0 kV
        have KV := K5.trans kV
        refine (double_ok B nb a cap 1000 k _ i _ V TV (by have := blk_lt TV.blk; omega) HX1.out (by rw [hNs]; omega) (by rw [hNs]; omega)).mono ?_
        rintro _ w6 ⟨a6, c6, g6, rfl, T6, k6⟩
        have K6 : Keep NoB w w6 := KV.trans' k6 (fun j hj e => by have := SN_out TV hnb j e; omega)
        have A6 := Lib.hid (blk_keep (blk_keep A5.out kV (fun h => h)) k6 (fun e => by rcases e with e | e; have h1 := (blk_keep A5.out kV (fun h => h)); rw [e, TV.blk] at h1; cases h1; exact TV.row.ne (blk_keep A5.out kV (fun h => h)) (by decide) _ e rfl))
        have B6 := Lib.hid (blk_keep (blk_keep B5.out kV (fun h => h)) k6 (fun e => by rcases e with e | e; have h1 := (blk_keep B5.out kV (fun h => h)); rw [e, TV.blk] at h1; cases h1; exact TV.row.ne (blk_keep B5.out kV (fun h => h)) (by decide) _ e rfl))
        have OM6 := (OM5.keep kV (fun _ _ h => h)).keep k6 (fun g hg e => by rcases e with e | e; exact (OM5.keep kV (fun _ _ h => h)).ne TV.blk (by decide) g hg e; exact TV.row.ne_own (OM5.keep kV (fun _ _ h => h)).row (by decide) g e hg)
        have hy1 : (N.set i (x.turned jq (b ^^^ b0)) ++ [(⟨(x.turned jq (b ^^^ b0)).f, (x.turned jq (b ^^^ b0)).t, some ⟨g6, 0, none⟩, (x.turned jq (b ^^^ b0)).l.length, (x.turned jq (b ^^^ b0)).tn, (x.turned jq (b ^^^ b0)).l⟩ : HE)])[i]? = some (x.turned jq (b ^^^ b0)) := by rw [List.getElem?_append_left (by rw [hNs]; omega)]; exact HX1.out
        have hy2 : (N.set i (x.turned jq (b ^^^ b0)) ++ [(⟨(x.turned jq (b ^^^ b0)).f, (x.turned jq (b ^^^ b0)).t, some ⟨g6, 0, none⟩, (x.turned jq (b ^^^ b0)).l.length, (x.turned jq (b ^^^ b0)).tn, (x.turned jq (b ^^^ b0)).l⟩ : HE)])[k]? = some ⟨(x.turned jq (b ^^^ b0)).f, (x.turned jq (b ^^^ b0)).t, some ⟨g6, 0, none⟩, (x.turned jq (b ^^^ b0)).l.length, (x.turned jq (b ^^^ b0)).tn, (x.turned jq (b ^^^ b0)).l⟩ := by
          have e : k = (N.set i (x.turned jq (b ^^^ b0))).length := by rw [hNs]; exact HN.out.symm
          rw [e, List.getElem?_concat_length]
        have HMade := Lib.hid (made_yes HP.out i jq (b ^^^ b0) x HX0.out ⟨(x.turned jq (b ^^^ b0)).f, (x.turned jq (b ^^^ b0)).t, some ⟨g6, 0, none⟩, (x.turned jq (b ^^^ b0)).l.length, (x.turned jq (b ^^^ b0)).tn, (x.turned jq (b ^^^ b0)).l⟩ rfl)
        have HY1 := Lib.hid hy1
        have HY2 := Lib.hid hy2
        have HT6 := Lib.hid T6
        have HOM6 := Lib.hid OM6
        have q0 := blk_cell A6.out 0
        have q1 := blk_cell A6.out 1
        have q2 := blk_cell B6.out 0
        have q3 := blk_cell B6.out 1
        have q4 := blk_lt A6.out
        have q5 := blk_lt B6.out
        simp at q0 q1 q2 q3
        clear hy1 hy2 T6 OM6 OM5 T5 TV k6 kV KV K5 p0 p1 p2 p3 p4 p5 A5 B5 HTX5
        go_wp2_with fail
        refine (turn_no B nb a6 c6 1000 k _ i 0 b1 _ w6 HT6.out HY1.out (Or.inr (Or.inr rfl))).mono ?_
        rintro _ w7 ⟨rfl, k7⟩
        have q0 := k7.some q0 (fun h => h)
        have q1 := k7.some q1 (fun h => h)
        have q2 := k7.some q2 (fun h => h)
        have q3 := k7.some q3 (fun h => h)
        have s7 := k7.size
        go_wp2_with fail
        refine (turn_no B nb a6 c6 1000 k _ k jq b1 _ w7 (HT6.out.keep0 k7) HY2.out (Or.inr (Or.inr rfl))).mono ?_
        rintro _ w8 ⟨rfl, k8⟩
        go_wp2_with fail
        have K8 := (K6.trans k7).trans k8
        have hT8 := (HT6.out.keep0 k7).keep0 k8
        have hM8 := HMade.out
        obtain ⟨NF, hNF⟩ : ∃ l, N.set i (x.turned jq (b ^^^ b0)) ++ [(⟨(x.turned jq (b ^^^ b0)).f, (x.turned jq (b ^^^ b0)).t, some ⟨g6, 0, none⟩, (x.turned jq (b ^^^ b0)).l.length, (x.turned jq (b ^^^ b0)).tn, (x.turned jq (b ^^^ b0)).l⟩ : HE)] = l := ⟨_, rfl⟩
        rw [hNF] at hT8 hM8
        have hNFl : NF.length ≤ k + 1 := by rw [← hNF]; simp; omega
        have TV := Lib.hid hT8
        have HMade8 := Lib.hid hM8
        have OMV := Lib.hid ((HOM6.out.keep k7 (fun _ _ h => h)).keep k8 (fun _ _ h => h))
        have HTXV := Lib.hid (H0.out.keep K8)
        have HAV := Lib.hid (blk_keep (blk_keep A6.out k7 (fun h => h)) k8 (fun h => h))
        have HBV := Lib.hid (blk_keep (blk_keep B6.out k7 (fun h => h)) k8 (fun h => h))
        clear hT8 hM8 hNF q0 q1 q2 q3 q4 q5 K6 k7 k8 hcw5 d1 d2 d3 d4 HY1 HY2 HT6 HOM6 A6 B6 HMade
        go_loopw [12] (fun m wx => ∃ mn : Nat, mn ≤ NF.length ∧ m = .int .i64 mn ∧ Keep NoB w8 wx) (fun m _ => NF.length - (intOf m).toNat)
        case atStart => exact ⟨0, Nat.zero_le _, rfl, Keep.refl _ _⟩
        case round =>
          obtain ⟨mn, hm, rfl, hkx⟩ := hrel
          have TX := TV.out.keep0 hkx
          by_cases hml : mn < NF.length
          · obtain ⟨y, hy⟩ : ∃ y, NF[mn]? = some y := ⟨_, List.getElem?_eq_getElem hml⟩
            have hmx := HMade8.out mn y hy
            have HX := Lib.hid hy
            clear hy
            obtain ⟨xf, xt, xa', xc', xn, xl'⟩ := y
            simp only [true_and] at hmx
            have qz := blk_cell (blk_keep HAV.out hkx (fun h => h)) 0
            have qzl := blk_lt (blk_keep HAV.out hkx (fun h => h))
            simp at qz
            by_cases hmi : mn = i ∨ N.length ≤ mn
            · rw [if_pos hmi] at hmx
              have HbZ := Lib.hid (show (z i).l[jq]? = some b by rw [← Hxl.out]; exact Hb.out)
              have hmi2 : k ≤ mn ∨ mn = i := by omega
              clear hmi
              by_cases hb0 : b0 = 0
              · have hz0 : ((b0.toNat : Int) != 0) = false := by simp [hb0]
                have Hb0 := Lib.hid hb0
                clear hb0
                rcases hmi2 with hkm | hkm
                · have d9 : decide (k ≤ mn) = true := by simpa using hkm
                  obtain ⟨WL, hWL⟩ : ∃ l, (z i).l = l := ⟨_, rfl⟩
                  rw [hWL] at hmx
                  have hwas := HW.out i hik
                  rw [hWL] at hwas
                  obtain ⟨hmaxX, hokX, hrowX⟩ := HTXV.out
                  rcases hrowX with h | ⟨bX, offX, haX, hbX, hcX⟩
                  · omega
                  cases haX
                  have hcwX := hcX i hik
                  have hrdX := (hokX i hik).1
                  have hllX := (hokX i hik).2
                  have hsmX := HSm.out.2 i hik
                  obtain ⟨va, vc, hva⟩ : ∃ va vc, (z i).v = .slice va WL.length vc := ⟨(z i).a, (z i).c, by rw [← hWL]; rfl⟩
                  rw [hva] at hcwX hrdX
                  rw [hWL] at hrdX hllX hsmX
                  have HWL := Lib.hid hWL
                  have Hhmx := Lib.hid hmx
                  have Hwas := Lib.hid hwas
                  have HcwX := Lib.hid hcwX
                  have HrdX := Lib.hid hrdX
                  clear hcX hokX hmaxX hva hWL hmx hwas hcwX hrdX
                  have hl1 : xl'.length ≤ WL.length := by rw [Hhmx.out]; simp
                  have hl2 : WL.length ≤ xl'.length := by rw [Hhmx.out]; simp
                  have hcnt : dcnt xl' WL xl'.length = 0 := by
                    have h9 := Hhmx.out
                    (have HbW : Hid (WL[jq]? = some b) := Lib.hid (by rw [← HWL.out]; exact HbZ.out); have hjW : jq < WL.length := (List.getElem?_eq_some_iff.1 HbW.out).1; rw [h9, dcnt_set WL jq b (b ^^^ b0) HbW.out, if_neg (fun e => absurd Hb0.out ((xor_ne b b0).1 e.2))])
                  have Hcnt := Lib.hid hcnt
                  clear hcnt
                  go_wp2_with fail
                  refine (len_any B nb a6 c6 1000 k NF _ TX).mono ?_
                  rintro _ w6 ⟨rfl, rfl⟩
                  go_wp2_with fail
                  refine (look_in B nb a6 c6 1000 k NF mn _ _ TX HX.out).mono ?_
                  rintro _ w7 ⟨g7, rfl, hg7, R7, k7⟩
                  simp only at R7
                  go_wp2_with fail
                  have K7 := (hkx.trans k7).alloc (Obj.cells #[Value.int IntKind.i64 (xf), Value.int IntKind.i64 (xt), Value.slice (some ⟨g7, 0, none⟩) (xl'.length) (xl'.length)] 32)
                  have R7' := R7.alloc (Obj.cells #[Value.int IntKind.i64 (xf), Value.int IntKind.i64 (xt), Value.slice (some ⟨g7, 0, none⟩) (xl'.length) (xl'.length)] 32)
                  have bp := blk_new w7 (Obj.cells #[Value.int IntKind.i64 (xf), Value.int IntKind.i64 (xt), Value.slice (some ⟨g7, 0, none⟩) (xl'.length) (xl'.length)] 32)
                  have sp := blk_lt bp
                  generalize World.alloc w7 (Obj.cells #[Value.int IntKind.i64 (xf), Value.int IntKind.i64 (xt), Value.slice (some ⟨g7, 0, none⟩) (xl'.length) (xl'.length)] 32) = W7 at K7 R7' bp sp ⊢
                  generalize w7.heap.size = pb at bp sp ⊢
                  have OM7 := OMV.out.keep K7 (fun _ _ h => h)
                  have HR7 := Lib.hid R7'
                  have Hbp := Lib.hid bp
                  have HOM7 := Lib.hid OM7
                  clear R7 R7' k7 hkx TX bp OM7 hg7
                  go_loopw [16, 124] (fun o c wy => ∃ cn : Nat, cn ≤ xl'.length ∧ c = .int .i64 cn ∧ o = .int .i64 (dcnt xl' WL cn : Nat) ∧ Keep NoB W7 wy) (fun _ c _ => xl'.length - (intOf c).toNat)
                  case atStart => exact ⟨0, Nat.zero_le _, rfl, rfl, Keep.refl _ _⟩
                  case round =>
                    obtain ⟨cn, hcn, rfl, rfl, hky⟩ := hrel
                    have pY := blk_keep Hbp.out hky (fun h => h)
                    have y0 := blk_cell pY 0
                    have y2 := blk_cell pY 2
                    have y3 := blk_lt pY
                    simp at y0 y2
                    clear pY
                    obtain ⟨gs, hv, hs1', hs2', ms0, ms1⟩ := (HOM7.out.keep hky (fun _ _ h => h)).cell1 cS_len Hwas.out rfl
                    cases hv
                    by_cases hcl : cn < xl'.length
                    · obtain ⟨u, hu⟩ : ∃ u, xl'[cn]? = some u := ⟨_, List.getElem?_eq_getElem hcl⟩
                      obtain ⟨v, hgv⟩ : ∃ v, WL[cn]'(by omega) = v := ⟨_, rfl⟩
                      have hvv : WL[cn]? = some v := by rw [List.getElem?_eq_getElem (by omega), hgv]
                      obtain ⟨gu, cu, hvu, _, _, hcu⟩ := (HR7.out.keep hky (fun _ _ h => h)).cells cU_len hu
                      cases hvu
                      have mu := hcu 0 _ rfl
                      simp only [Nat.mul_one, Nat.add_zero] at mu
                      have hcW : cn < WL.length := by omega
                      have hcW2 : (cn : Int) < (WL.length : Int) := by omega
                      have hgv2 : (⟨WL.toArray⟩ : ByteArray)[cn]'(by simp [ByteArray.size]; omega) = v := by rw [ByteArray.getElem_eq_getElem_data]; simpa using hgv
                      have HU := Lib.hid hu
                      have HVv := Lib.hid hvv
                      have hdle := dcnt_le xl' WL cn
                      clear hcu hu hvv
                      by_cases huv : u = v
                      · have hd : ((u.toNat : Int) != (v.toNat : Int)) = false := by simp [huv]
                        have hd2 : (u.toNat != v.toNat) = false := by simp [huv]
                        have hst : dcnt xl' WL (cn + 1) = dcnt xl' WL cn := by simp [dcnt, HU.out, HVv.out, huv]
                        have Hst := Lib.hid hst
                        clear hst
                        go_wp2_with fail
                        go_quiet (fail)
                        go_wp2_with fail
                        go_roundw
                        case rel => exact ⟨cn + 1, hcl, by go_num, by rw [Hst.out], hky.drewN nq⟩
                        case measure => simp [intOf]; omega
                      · have hne : u.toNat ≠ v.toNat := fun e => huv (UInt8.toNat_inj.1 e)
                        have hd : ((u.toNat : Int) != (v.toNat : Int)) = true := by simp; omega
                        have hd2 : (u.toNat != v.toNat) = true := by simpa using hne
                        have hst : dcnt xl' WL (cn + 1) = dcnt xl' WL cn + 1 := by simp [dcnt, HU.out, HVv.out, huv]
                        have Hst := Lib.hid hst
                        clear hst
                        go_wp2_with fail
                        go_quiet (fail)
                        go_wp2_with fail
                        go_roundw
                        case rel => exact ⟨cn + 1, hcl, by go_num, by rw [Hst.out]; go_num, hky.drewN nq⟩
                        case measure => simp [intOf]; omega
                    · obtain rfl : cn = xl'.length := by omega
                      have Kz := K7.trans hky
                      have qA := blk_keep HAV.out Kz (fun h => h)
                      have qB := blk_keep HBV.out Kz (fun h => h)
                      have qa0 := blk_cell qA 0
                      have qb0 := blk_cell qB 0
                      have qa1 := blk_lt qA
                      have qb1 := blk_lt qB
                      have qc := Kz.some HcwX.out (fun h => h)
                      have hbXl := Nat.lt_of_lt_of_le hbX Kz.size
                      have hsx : ∀ n, (convert 27 9 (.slice va WL.length vc)).run Try.prog (wr.drewN n) = .ok (.string ⟨WL.toArray⟩) (wr.drewN n) := fun n => ((HrdX.out.keep Kz (fun _ _ _ _ h => h)).keep ((Keep.refl NoB wr).drewN n) (fun _ _ _ _ h => h)).str
                      have hle1 : ((xl'.length : Int) != (WL.length : Int)) = false := by simp; omega
                      have hle2 : (xl'.length != WL.length) = false := by simp; omega
                      have hcn0 := Hcnt.out
                      simp at qa0 qb0
                      clear qA qB
                      skip
                      go_wp2_with fail
                      go_quiet (fail)
                      go_wp2_with fail
                      go_roundw
                      case rel => exact ⟨mn + 1, hml, by go_num, Kz.drewN nq⟩
                      case measure => simp [intOf]; omega
                · subst hkm
                  have d9 : decide (k ≤ mn) = false := by simp; omega
                  obtain ⟨WL, hWL⟩ : ∃ l, (z mn).l = l := ⟨_, rfl⟩
                  rw [hWL] at hmx
                  have hwas := HW.out mn hik
                  rw [hWL] at hwas
                  obtain ⟨hmaxX, hokX, hrowX⟩ := HTXV.out
                  rcases hrowX with h | ⟨bX, offX, haX, hbX, hcX⟩
                  · omega
                  cases haX
                  have hcwX := hcX mn hik
                  have hrdX := (hokX mn hik).1
                  have hllX := (hokX mn hik).2
                  have hsmX := HSm.out.2 mn hik
                  obtain ⟨va, vc, hva⟩ : ∃ va vc, (z mn).v = .slice va WL.length vc := ⟨(z mn).a, (z mn).c, by rw [← hWL]; rfl⟩
                  rw [hva] at hcwX hrdX
                  rw [hWL] at hrdX hllX hsmX
                  have HWL := Lib.hid hWL
                  have Hhmx := Lib.hid hmx
                  have Hwas := Lib.hid hwas
                  have HcwX := Lib.hid hcwX
                  have HrdX := Lib.hid hrdX
                  clear hcX hokX hmaxX hva hWL hmx hwas hcwX hrdX
                  have hl1 : xl'.length ≤ WL.length := by rw [Hhmx.out]; simp
                  have hl2 : WL.length ≤ xl'.length := by rw [Hhmx.out]; simp
                  have hcnt : dcnt xl' WL xl'.length = 0 := by
                    have h9 := Hhmx.out
                    (have HbW : Hid (WL[jq]? = some b) := Lib.hid (by rw [← HWL.out]; exact HbZ.out); have hjW : jq < WL.length := (List.getElem?_eq_some_iff.1 HbW.out).1; rw [h9, dcnt_set WL jq b (b ^^^ b0) HbW.out, if_neg (fun e => absurd Hb0.out ((xor_ne b b0).1 e.2))])
                  have Hcnt := Lib.hid hcnt
                  clear hcnt
                  go_wp2_with fail
                  refine (len_any B nb a6 c6 1000 k NF _ TX).mono ?_
                  rintro _ w6 ⟨rfl, rfl⟩
                  go_wp2_with fail
                  refine (look_in B nb a6 c6 1000 k NF mn _ _ TX HX.out).mono ?_
                  rintro _ w7 ⟨g7, rfl, hg7, R7, k7⟩
                  simp only at R7
                  go_wp2_with fail
                  have K7 := (hkx.trans k7).alloc (Obj.cells #[Value.int IntKind.i64 (xf), Value.int IntKind.i64 (xt), Value.slice (some ⟨g7, 0, none⟩) (xl'.length) (xl'.length)] 32)
                  have R7' := R7.alloc (Obj.cells #[Value.int IntKind.i64 (xf), Value.int IntKind.i64 (xt), Value.slice (some ⟨g7, 0, none⟩) (xl'.length) (xl'.length)] 32)
                  have bp := blk_new w7 (Obj.cells #[Value.int IntKind.i64 (xf), Value.int IntKind.i64 (xt), Value.slice (some ⟨g7, 0, none⟩) (xl'.length) (xl'.length)] 32)
                  have sp := blk_lt bp
                  generalize World.alloc w7 (Obj.cells #[Value.int IntKind.i64 (xf), Value.int IntKind.i64 (xt), Value.slice (some ⟨g7, 0, none⟩) (xl'.length) (xl'.length)] 32) = W7 at K7 R7' bp sp ⊢
                  generalize w7.heap.size = pb at bp sp ⊢
                  have OM7 := OMV.out.keep K7 (fun _ _ h => h)
                  have HR7 := Lib.hid R7'
                  have Hbp := Lib.hid bp
                  have HOM7 := Lib.hid OM7
                  clear R7 R7' k7 hkx TX bp OM7 hg7
                  go_loopw [16, 124] (fun o c wy => ∃ cn : Nat, cn ≤ xl'.length ∧ c = .int .i64 cn ∧ o = .int .i64 (dcnt xl' WL cn : Nat) ∧ Keep NoB W7 wy) (fun _ c _ => xl'.length - (intOf c).toNat)
                  case atStart => exact ⟨0, Nat.zero_le _, rfl, rfl, Keep.refl _ _⟩
                  case round =>
                    obtain ⟨cn, hcn, rfl, rfl, hky⟩ := hrel
                    have pY := blk_keep Hbp.out hky (fun h => h)
                    have y0 := blk_cell pY 0
                    have y2 := blk_cell pY 2
                    have y3 := blk_lt pY
                    simp at y0 y2
                    clear pY
                    obtain ⟨gs, hv, hs1', hs2', ms0, ms1⟩ := (HOM7.out.keep hky (fun _ _ h => h)).cell1 cS_len Hwas.out rfl
                    cases hv
                    by_cases hcl : cn < xl'.length
                    · obtain ⟨u, hu⟩ : ∃ u, xl'[cn]? = some u := ⟨_, List.getElem?_eq_getElem hcl⟩
                      obtain ⟨v, hgv⟩ : ∃ v, WL[cn]'(by omega) = v := ⟨_, rfl⟩
                      have hvv : WL[cn]? = some v := by rw [List.getElem?_eq_getElem (by omega), hgv]
                      obtain ⟨gu, cu, hvu, _, _, hcu⟩ := (HR7.out.keep hky (fun _ _ h => h)).cells cU_len hu
                      cases hvu
                      have mu := hcu 0 _ rfl
                      simp only [Nat.mul_one, Nat.add_zero] at mu
                      have hcW : cn < WL.length := by omega
                      have hcW2 : (cn : Int) < (WL.length : Int) := by omega
                      have hgv2 : (⟨WL.toArray⟩ : ByteArray)[cn]'(by simp [ByteArray.size]; omega) = v := by rw [ByteArray.getElem_eq_getElem_data]; simpa using hgv
                      have HU := Lib.hid hu
                      have HVv := Lib.hid hvv
                      have hdle := dcnt_le xl' WL cn
                      clear hcu hu hvv
                      by_cases huv : u = v
                      · have hd : ((u.toNat : Int) != (v.toNat : Int)) = false := by simp [huv]
                        have hd2 : (u.toNat != v.toNat) = false := by simp [huv]
                        have hst : dcnt xl' WL (cn + 1) = dcnt xl' WL cn := by simp [dcnt, HU.out, HVv.out, huv]
                        have Hst := Lib.hid hst
                        clear hst
                        go_wp2_with fail
                        go_quiet (fail)
                        go_wp2_with fail
                        go_roundw
                        case rel => exact ⟨cn + 1, hcl, by go_num, by rw [Hst.out], hky.drewN nq⟩
                        case measure => simp [intOf]; omega
                      · have hne : u.toNat ≠ v.toNat := fun e => huv (UInt8.toNat_inj.1 e)
                        have hd : ((u.toNat : Int) != (v.toNat : Int)) = true := by simp; omega
                        have hd2 : (u.toNat != v.toNat) = true := by simpa using hne
                        have hst : dcnt xl' WL (cn + 1) = dcnt xl' WL cn + 1 := by simp [dcnt, HU.out, HVv.out, huv]
                        have Hst := Lib.hid hst
                        clear hst
                        go_wp2_with fail
                        go_quiet (fail)
                        go_wp2_with fail
                        go_roundw
                        case rel => exact ⟨cn + 1, hcl, by go_num, by rw [Hst.out]; go_num, hky.drewN nq⟩
                        case measure => simp [intOf]; omega
                    · obtain rfl : cn = xl'.length := by omega
                      have Kz := K7.trans hky
                      have qA := blk_keep HAV.out Kz (fun h => h)
                      have qB := blk_keep HBV.out Kz (fun h => h)
                      have qa0 := blk_cell qA 0
                      have qb0 := blk_cell qB 0
                      have qa1 := blk_lt qA
                      have qb1 := blk_lt qB
                      have qc := Kz.some HcwX.out (fun h => h)
                      have hbXl := Nat.lt_of_lt_of_le hbX Kz.size
                      have hsx : ∀ n, (convert 27 9 (.slice va WL.length vc)).run Try.prog (wr.drewN n) = .ok (.string ⟨WL.toArray⟩) (wr.drewN n) := fun n => ((HrdX.out.keep Kz (fun _ _ _ _ h => h)).keep ((Keep.refl NoB wr).drewN n) (fun _ _ _ _ h => h)).str
                      have hle1 : ((xl'.length : Int) != (WL.length : Int)) = false := by simp; omega
                      have hle2 : (xl'.length != WL.length) = false := by simp; omega
                      have hcn0 := Hcnt.out
                      simp at qa0 qb0
                      clear qA qB
                      skip
                      go_wp2_with fail
                      go_quiet (fail)
                      go_wp2_with fail
                      go_roundw
                      case rel => exact ⟨mn + 1, hml, by go_num, Kz.drewN nq⟩
                      case measure => simp [intOf]; omega
              · have hzn : b0.toNat ≠ 0 := fun e => hb0 (UInt8.toNat_inj.1 (by simpa using e))
                have hz0 : ((b0.toNat : Int) != 0) = true := by simp; omega
                rcases hmi2 with hkm | hkm
                · have d9 : decide (k ≤ mn) = true := by simpa using hkm
                  obtain ⟨WL, hWL⟩ : ∃ l, (z i).l = l := ⟨_, rfl⟩
                  rw [hWL] at hmx
                  have hwas := HW.out i hik
                  rw [hWL] at hwas
                  obtain ⟨hmaxX, hokX, hrowX⟩ := HTXV.out
                  rcases hrowX with h | ⟨bX, offX, haX, hbX, hcX⟩
                  · omega
                  cases haX
                  have hcwX := hcX i hik
                  have hrdX := (hokX i hik).1
                  have hllX := (hokX i hik).2
                  have hsmX := HSm.out.2 i hik
                  obtain ⟨va, vc, hva⟩ : ∃ va vc, (z i).v = .slice va WL.length vc := ⟨(z i).a, (z i).c, by rw [← hWL]; rfl⟩
                  rw [hva] at hcwX hrdX
                  rw [hWL] at hrdX hllX hsmX
                  have HWL := Lib.hid hWL
                  have Hhmx := Lib.hid hmx
                  have Hwas := Lib.hid hwas
                  have HcwX := Lib.hid hcwX
                  have HrdX := Lib.hid hrdX
                  clear hcX hokX hmaxX hva hWL hmx hwas hcwX hrdX
                  have hl1 : xl'.length ≤ WL.length := by rw [Hhmx.out]; simp
                  have hl2 : WL.length ≤ xl'.length := by rw [Hhmx.out]; simp
                  have hcnt : dcnt xl' WL xl'.length = 1 := by
                    have h9 := Hhmx.out
                    (have HbW : Hid (WL[jq]? = some b) := Lib.hid (by rw [← HWL.out]; exact HbZ.out); have hjW : jq < WL.length := (List.getElem?_eq_some_iff.1 HbW.out).1; rw [h9, dcnt_set WL jq b (b ^^^ b0) HbW.out, if_pos ⟨by rw [List.length_set]; omega, (xor_ne b b0).2 hb0⟩])
                  have Hcnt := Lib.hid hcnt
                  clear hcnt
                  go_wp2_with fail
                  refine (len_any B nb a6 c6 1000 k NF _ TX).mono ?_
                  rintro _ w6 ⟨rfl, rfl⟩
                  go_wp2_with fail
                  refine (look_in B nb a6 c6 1000 k NF mn _ _ TX HX.out).mono ?_
                  rintro _ w7 ⟨g7, rfl, hg7, R7, k7⟩
                  simp only at R7
                  go_wp2_with fail
                  have K7 := (hkx.trans k7).alloc (Obj.cells #[Value.int IntKind.i64 (xf), Value.int IntKind.i64 (xt), Value.slice (some ⟨g7, 0, none⟩) (xl'.length) (xl'.length)] 32)
                  have R7' := R7.alloc (Obj.cells #[Value.int IntKind.i64 (xf), Value.int IntKind.i64 (xt), Value.slice (some ⟨g7, 0, none⟩) (xl'.length) (xl'.length)] 32)
                  have bp := blk_new w7 (Obj.cells #[Value.int IntKind.i64 (xf), Value.int IntKind.i64 (xt), Value.slice (some ⟨g7, 0, none⟩) (xl'.length) (xl'.length)] 32)
                  have sp := blk_lt bp
                  generalize World.alloc w7 (Obj.cells #[Value.int IntKind.i64 (xf), Value.int IntKind.i64 (xt), Value.slice (some ⟨g7, 0, none⟩) (xl'.length) (xl'.length)] 32) = W7 at K7 R7' bp sp ⊢
                  generalize w7.heap.size = pb at bp sp ⊢
                  have OM7 := OMV.out.keep K7 (fun _ _ h => h)
                  have HR7 := Lib.hid R7'
                  have Hbp := Lib.hid bp
                  have HOM7 := Lib.hid OM7
                  clear R7 R7' k7 hkx TX bp OM7 hg7
                  go_loopw [16, 124] (fun o c wy => ∃ cn : Nat, cn ≤ xl'.length ∧ c = .int .i64 cn ∧ o = .int .i64 (dcnt xl' WL cn : Nat) ∧ Keep NoB W7 wy) (fun _ c _ => xl'.length - (intOf c).toNat)
                  case atStart => exact ⟨0, Nat.zero_le _, rfl, rfl, Keep.refl _ _⟩
                  case round =>
                    obtain ⟨cn, hcn, rfl, rfl, hky⟩ := hrel
                    have pY := blk_keep Hbp.out hky (fun h => h)
                    have y0 := blk_cell pY 0
                    have y2 := blk_cell pY 2
                    have y3 := blk_lt pY
                    simp at y0 y2
                    clear pY
                    obtain ⟨gs, hv, hs1', hs2', ms0, ms1⟩ := (HOM7.out.keep hky (fun _ _ h => h)).cell1 cS_len Hwas.out rfl
                    cases hv
                    by_cases hcl : cn < xl'.length
                    · obtain ⟨u, hu⟩ : ∃ u, xl'[cn]? = some u := ⟨_, List.getElem?_eq_getElem hcl⟩
                      obtain ⟨v, hgv⟩ : ∃ v, WL[cn]'(by omega) = v := ⟨_, rfl⟩
                      have hvv : WL[cn]? = some v := by rw [List.getElem?_eq_getElem (by omega), hgv]
                      obtain ⟨gu, cu, hvu, _, _, hcu⟩ := (HR7.out.keep hky (fun _ _ h => h)).cells cU_len hu
                      cases hvu
                      have mu := hcu 0 _ rfl
                      simp only [Nat.mul_one, Nat.add_zero] at mu
                      have hcW : cn < WL.length := by omega
                      have hcW2 : (cn : Int) < (WL.length : Int) := by omega
                      have hgv2 : (⟨WL.toArray⟩ : ByteArray)[cn]'(by simp [ByteArray.size]; omega) = v := by rw [ByteArray.getElem_eq_getElem_data]; simpa using hgv
                      have HU := Lib.hid hu
                      have HVv := Lib.hid hvv
                      have hdle := dcnt_le xl' WL cn
                      clear hcu hu hvv
                      by_cases huv : u = v
                      · have hd : ((u.toNat : Int) != (v.toNat : Int)) = false := by simp [huv]
                        have hd2 : (u.toNat != v.toNat) = false := by simp [huv]
                        have hst : dcnt xl' WL (cn + 1) = dcnt xl' WL cn := by simp [dcnt, HU.out, HVv.out, huv]
                        have Hst := Lib.hid hst
                        clear hst
                        go_wp2_with fail
                        go_quiet (fail)
                        go_wp2_with fail
                        go_roundw
                        case rel => exact ⟨cn + 1, hcl, by go_num, by rw [Hst.out], hky.drewN nq⟩
                        case measure => simp [intOf]; omega
                      · have hne : u.toNat ≠ v.toNat := fun e => huv (UInt8.toNat_inj.1 e)
                        have hd : ((u.toNat : Int) != (v.toNat : Int)) = true := by simp; omega
                        have hd2 : (u.toNat != v.toNat) = true := by simpa using hne
                        have hst : dcnt xl' WL (cn + 1) = dcnt xl' WL cn + 1 := by simp [dcnt, HU.out, HVv.out, huv]
                        have Hst := Lib.hid hst
                        clear hst
                        go_wp2_with fail
                        go_quiet (fail)
                        go_wp2_with fail
                        go_roundw
                        case rel => exact ⟨cn + 1, hcl, by go_num, by rw [Hst.out]; go_num, hky.drewN nq⟩
                        case measure => simp [intOf]; omega
                    · obtain rfl : cn = xl'.length := by omega
                      have Kz := K7.trans hky
                      have qA := blk_keep HAV.out Kz (fun h => h)
                      have qB := blk_keep HBV.out Kz (fun h => h)
                      have qa0 := blk_cell qA 0
                      have qb0 := blk_cell qB 0
                      have qa1 := blk_lt qA
                      have qb1 := blk_lt qB
                      have qc := Kz.some HcwX.out (fun h => h)
                      have hbXl := Nat.lt_of_lt_of_le hbX Kz.size
                      have hsx : ∀ n, (convert 27 9 (.slice va WL.length vc)).run Try.prog (wr.drewN n) = .ok (.string ⟨WL.toArray⟩) (wr.drewN n) := fun n => ((HrdX.out.keep Kz (fun _ _ _ _ h => h)).keep ((Keep.refl NoB wr).drewN n) (fun _ _ _ _ h => h)).str
                      have hle1 : ((xl'.length : Int) != (WL.length : Int)) = false := by simp; omega
                      have hle2 : (xl'.length != WL.length) = false := by simp; omega
                      have hcn0 := Hcnt.out
                      simp at qa0 qb0
                      clear qA qB
                      skip
                      go_wp2_with fail
                      go_quiet (fail)
                      go_wp2_with fail
                      go_roundw
                      case rel => exact ⟨mn + 1, hml, by go_num, Kz.drewN nq⟩
                      case measure => simp [intOf]; omega
                · subst hkm
                  have d9 : decide (k ≤ mn) = false := by simp; omega
                  obtain ⟨WL, hWL⟩ : ∃ l, (z mn).l = l := ⟨_, rfl⟩
                  rw [hWL] at hmx
                  have hwas := HW.out mn hik
                  rw [hWL] at hwas
                  obtain ⟨hmaxX, hokX, hrowX⟩ := HTXV.out
                  rcases hrowX with h | ⟨bX, offX, haX, hbX, hcX⟩
                  · omega
                  cases haX
                  have hcwX := hcX mn hik
                  have hrdX := (hokX mn hik).1
                  have hllX := (hokX mn hik).2
                  have hsmX := HSm.out.2 mn hik
                  obtain ⟨va, vc, hva⟩ : ∃ va vc, (z mn).v = .slice va WL.length vc := ⟨(z mn).a, (z mn).c, by rw [← hWL]; rfl⟩
                  rw [hva] at hcwX hrdX
                  rw [hWL] at hrdX hllX hsmX
                  have HWL := Lib.hid hWL
                  have Hhmx := Lib.hid hmx
                  have Hwas := Lib.hid hwas
                  have HcwX := Lib.hid hcwX
                  have HrdX := Lib.hid hrdX
                  clear hcX hokX hmaxX hva hWL hmx hwas hcwX hrdX
                  have hl1 : xl'.length ≤ WL.length := by rw [Hhmx.out]; simp
                  have hl2 : WL.length ≤ xl'.length := by rw [Hhmx.out]; simp
                  have hcnt : dcnt xl' WL xl'.length = 1 := by
                    have h9 := Hhmx.out
                    (have HbW : Hid (WL[jq]? = some b) := Lib.hid (by rw [← HWL.out]; exact HbZ.out); have hjW : jq < WL.length := (List.getElem?_eq_some_iff.1 HbW.out).1; rw [h9, dcnt_set WL jq b (b ^^^ b0) HbW.out, if_pos ⟨by rw [List.length_set]; omega, (xor_ne b b0).2 hb0⟩])
                  have Hcnt := Lib.hid hcnt
                  clear hcnt
                  go_wp2_with fail
                  refine (len_any B nb a6 c6 1000 k NF _ TX).mono ?_
                  rintro _ w6 ⟨rfl, rfl⟩
                  go_wp2_with fail
                  refine (look_in B nb a6 c6 1000 k NF mn _ _ TX HX.out).mono ?_
                  rintro _ w7 ⟨g7, rfl, hg7, R7, k7⟩
                  simp only at R7
                  go_wp2_with fail
                  have K7 := (hkx.trans k7).alloc (Obj.cells #[Value.int IntKind.i64 (xf), Value.int IntKind.i64 (xt), Value.slice (some ⟨g7, 0, none⟩) (xl'.length) (xl'.length)] 32)
                  have R7' := R7.alloc (Obj.cells #[Value.int IntKind.i64 (xf), Value.int IntKind.i64 (xt), Value.slice (some ⟨g7, 0, none⟩) (xl'.length) (xl'.length)] 32)
                  have bp := blk_new w7 (Obj.cells #[Value.int IntKind.i64 (xf), Value.int IntKind.i64 (xt), Value.slice (some ⟨g7, 0, none⟩) (xl'.length) (xl'.length)] 32)
                  have sp := blk_lt bp
                  generalize World.alloc w7 (Obj.cells #[Value.int IntKind.i64 (xf), Value.int IntKind.i64 (xt), Value.slice (some ⟨g7, 0, none⟩) (xl'.length) (xl'.length)] 32) = W7 at K7 R7' bp sp ⊢
                  generalize w7.heap.size = pb at bp sp ⊢
                  have OM7 := OMV.out.keep K7 (fun _ _ h => h)
                  have HR7 := Lib.hid R7'
                  have Hbp := Lib.hid bp
                  have HOM7 := Lib.hid OM7
                  clear R7 R7' k7 hkx TX bp OM7 hg7
                  go_loopw [16, 124] (fun o c wy => ∃ cn : Nat, cn ≤ xl'.length ∧ c = .int .i64 cn ∧ o = .int .i64 (dcnt xl' WL cn : Nat) ∧ Keep NoB W7 wy) (fun _ c _ => xl'.length - (intOf c).toNat)
                  case atStart => exact ⟨0, Nat.zero_le _, rfl, rfl, Keep.refl _ _⟩
                  case round =>
                    obtain ⟨cn, hcn, rfl, rfl, hky⟩ := hrel
                    have pY := blk_keep Hbp.out hky (fun h => h)
                    have y0 := blk_cell pY 0
                    have y2 := blk_cell pY 2
                    have y3 := blk_lt pY
                    simp at y0 y2
                    clear pY
                    obtain ⟨gs, hv, hs1', hs2', ms0, ms1⟩ := (HOM7.out.keep hky (fun _ _ h => h)).cell1 cS_len Hwas.out rfl
                    cases hv
                    by_cases hcl : cn < xl'.length
                    · obtain ⟨u, hu⟩ : ∃ u, xl'[cn]? = some u := ⟨_, List.getElem?_eq_getElem hcl⟩
                      obtain ⟨v, hgv⟩ : ∃ v, WL[cn]'(by omega) = v := ⟨_, rfl⟩
                      have hvv : WL[cn]? = some v := by rw [List.getElem?_eq_getElem (by omega), hgv]
                      obtain ⟨gu, cu, hvu, _, _, hcu⟩ := (HR7.out.keep hky (fun _ _ h => h)).cells cU_len hu
                      cases hvu
                      have mu := hcu 0 _ rfl
                      simp only [Nat.mul_one, Nat.add_zero] at mu
                      have hcW : cn < WL.length := by omega
                      have hcW2 : (cn : Int) < (WL.length : Int) := by omega
                      have hgv2 : (⟨WL.toArray⟩ : ByteArray)[cn]'(by simp [ByteArray.size]; omega) = v := by rw [ByteArray.getElem_eq_getElem_data]; simpa using hgv
                      have HU := Lib.hid hu
                      have HVv := Lib.hid hvv
                      have hdle := dcnt_le xl' WL cn
                      clear hcu hu hvv
                      by_cases huv : u = v
                      · have hd : ((u.toNat : Int) != (v.toNat : Int)) = false := by simp [huv]
                        have hd2 : (u.toNat != v.toNat) = false := by simp [huv]
                        have hst : dcnt xl' WL (cn + 1) = dcnt xl' WL cn := by simp [dcnt, HU.out, HVv.out, huv]
                        have Hst := Lib.hid hst
                        clear hst
                        go_wp2_with fail
                        go_quiet (fail)
                        go_wp2_with fail
                        go_roundw
                        case rel => exact ⟨cn + 1, hcl, by go_num, by rw [Hst.out], hky.drewN nq⟩
                        case measure => simp [intOf]; omega
                      · have hne : u.toNat ≠ v.toNat := fun e => huv (UInt8.toNat_inj.1 e)
                        have hd : ((u.toNat : Int) != (v.toNat : Int)) = true := by simp; omega
                        have hd2 : (u.toNat != v.toNat) = true := by simpa using hne
                        have hst : dcnt xl' WL (cn + 1) = dcnt xl' WL cn + 1 := by simp [dcnt, HU.out, HVv.out, huv]
                        have Hst := Lib.hid hst
                        clear hst
                        go_wp2_with fail
                        go_quiet (fail)
                        go_wp2_with fail
                        go_roundw
                        case rel => exact ⟨cn + 1, hcl, by go_num, by rw [Hst.out]; go_num, hky.drewN nq⟩
                        case measure => simp [intOf]; omega
                    · obtain rfl : cn = xl'.length := by omega
                      have Kz := K7.trans hky
                      have qA := blk_keep HAV.out Kz (fun h => h)
                      have qB := blk_keep HBV.out Kz (fun h => h)
                      have qa0 := blk_cell qA 0
                      have qb0 := blk_cell qB 0
                      have qa1 := blk_lt qA
                      have qb1 := blk_lt qB
                      have qc := Kz.some HcwX.out (fun h => h)
                      have hbXl := Nat.lt_of_lt_of_le hbX Kz.size
                      have hsx : ∀ n, (convert 27 9 (.slice va WL.length vc)).run Try.prog (wr.drewN n) = .ok (.string ⟨WL.toArray⟩) (wr.drewN n) := fun n => ((HrdX.out.keep Kz (fun _ _ _ _ h => h)).keep ((Keep.refl NoB wr).drewN n) (fun _ _ _ _ h => h)).str
                      have hle1 : ((xl'.length : Int) != (WL.length : Int)) = false := by simp; omega
                      have hle2 : (xl'.length != WL.length) = false := by simp; omega
                      have hcn0 := Hcnt.out
                      simp at qa0 qb0
                      clear qA qB
                      skip
                      go_wp2_with fail
                      go_quiet (fail)
                      go_wp2_with fail
                      go_roundw
                      case rel => exact ⟨mn + 1, hml, by go_num, Kz.drewN nq⟩
                      case measure => simp [intOf]; omega
            · rw [if_neg hmi] at hmx
              have hmk : mn < k := by omega
              have hmi2 : mn ≠ i := fun e => hmi (Or.inl e)
              have d9 : decide (k ≤ mn) = false := by simp; omega
              have d8 : (mn == i) = false := by simpa using hmi2
              have d7 : ((mn : Int) == (i : Int)) = false := by simp; omega
              clear hmi
              obtain ⟨WL, hWL⟩ : ∃ l, (z mn).l = l := ⟨_, rfl⟩
              rw [hWL] at hmx
              have hwas := HW.out mn hmk
              rw [hWL] at hwas
              obtain ⟨hmaxX, hokX, hrowX⟩ := HTXV.out
              rcases hrowX with h | ⟨bX, offX, haX, hbX, hcX⟩
              · omega
              cases haX
              have hcwX := hcX mn hmk
              have hrdX := (hokX mn hmk).1
              have hllX := (hokX mn hmk).2
              have hsmX := HSm.out.2 mn hmk
              obtain ⟨va, vc, hva⟩ : ∃ va vc, (z mn).v = .slice va WL.length vc := ⟨(z mn).a, (z mn).c, by rw [← hWL]; rfl⟩
              rw [hva] at hcwX hrdX
              rw [hWL] at hrdX hllX hsmX
              have HWL := Lib.hid hWL
              have Hhmx := Lib.hid hmx
              have Hwas := Lib.hid hwas
              have HcwX := Lib.hid hcwX
              have HrdX := Lib.hid hrdX
              clear hcX hokX hmaxX hva hWL hmx hwas hcwX hrdX
              have hl1 : xl'.length ≤ WL.length := by rw [Hhmx.out]; simp
              have hl2 : WL.length ≤ xl'.length := by rw [Hhmx.out]; simp
              have hcnt : dcnt xl' WL xl'.length = 0 := by
                have h9 := Hhmx.out
                (rw [h9]; exact dcnt_same _ _)
              have Hcnt := Lib.hid hcnt
              clear hcnt
              go_wp2_with fail
              refine (len_any B nb a6 c6 1000 k NF _ TX).mono ?_
              rintro _ w6 ⟨rfl, rfl⟩
              go_wp2_with fail
              refine (look_in B nb a6 c6 1000 k NF mn _ _ TX HX.out).mono ?_
              rintro _ w7 ⟨g7, rfl, hg7, R7, k7⟩
              simp only at R7
              go_wp2_with fail
              have K7 := (hkx.trans k7).alloc (Obj.cells #[Value.int IntKind.i64 (xf), Value.int IntKind.i64 (xt), Value.slice (some ⟨g7, 0, none⟩) (xl'.length) (xl'.length)] 32)
              have R7' := R7.alloc (Obj.cells #[Value.int IntKind.i64 (xf), Value.int IntKind.i64 (xt), Value.slice (some ⟨g7, 0, none⟩) (xl'.length) (xl'.length)] 32)
              have bp := blk_new w7 (Obj.cells #[Value.int IntKind.i64 (xf), Value.int IntKind.i64 (xt), Value.slice (some ⟨g7, 0, none⟩) (xl'.length) (xl'.length)] 32)
              have sp := blk_lt bp
              generalize World.alloc w7 (Obj.cells #[Value.int IntKind.i64 (xf), Value.int IntKind.i64 (xt), Value.slice (some ⟨g7, 0, none⟩) (xl'.length) (xl'.length)] 32) = W7 at K7 R7' bp sp ⊢
              generalize w7.heap.size = pb at bp sp ⊢
              have OM7 := OMV.out.keep K7 (fun _ _ h => h)
              have HR7 := Lib.hid R7'
              have Hbp := Lib.hid bp
              have HOM7 := Lib.hid OM7
              clear R7 R7' k7 hkx TX bp OM7 hg7
              go_loopw [16, 124] (fun o c wy => ∃ cn : Nat, cn ≤ xl'.length ∧ c = .int .i64 cn ∧ o = .int .i64 (dcnt xl' WL cn : Nat) ∧ Keep NoB W7 wy) (fun _ c _ => xl'.length - (intOf c).toNat)
              case atStart => exact ⟨0, Nat.zero_le _, rfl, rfl, Keep.refl _ _⟩
              case round =>
                obtain ⟨cn, hcn, rfl, rfl, hky⟩ := hrel
                have pY := blk_keep Hbp.out hky (fun h => h)
                have y0 := blk_cell pY 0
                have y2 := blk_cell pY 2
                have y3 := blk_lt pY
                simp at y0 y2
                clear pY
                obtain ⟨gs, hv, hs1', hs2', ms0, ms1⟩ := (HOM7.out.keep hky (fun _ _ h => h)).cell1 cS_len Hwas.out rfl
                cases hv
                by_cases hcl : cn < xl'.length
                · obtain ⟨u, hu⟩ : ∃ u, xl'[cn]? = some u := ⟨_, List.getElem?_eq_getElem hcl⟩
                  obtain ⟨v, hgv⟩ : ∃ v, WL[cn]'(by omega) = v := ⟨_, rfl⟩
                  have hvv : WL[cn]? = some v := by rw [List.getElem?_eq_getElem (by omega), hgv]
                  obtain ⟨gu, cu, hvu, _, _, hcu⟩ := (HR7.out.keep hky (fun _ _ h => h)).cells cU_len hu
                  cases hvu
                  have mu := hcu 0 _ rfl
                  simp only [Nat.mul_one, Nat.add_zero] at mu
                  have hcW : cn < WL.length := by omega
                  have hcW2 : (cn : Int) < (WL.length : Int) := by omega
                  have hgv2 : (⟨WL.toArray⟩ : ByteArray)[cn]'(by simp [ByteArray.size]; omega) = v := by rw [ByteArray.getElem_eq_getElem_data]; simpa using hgv
                  have HU := Lib.hid hu
                  have HVv := Lib.hid hvv
                  have hdle := dcnt_le xl' WL cn
                  clear hcu hu hvv
                  by_cases huv : u = v
                  · have hd : ((u.toNat : Int) != (v.toNat : Int)) = false := by simp [huv]
                    have hd2 : (u.toNat != v.toNat) = false := by simp [huv]
                    have hst : dcnt xl' WL (cn + 1) = dcnt xl' WL cn := by simp [dcnt, HU.out, HVv.out, huv]
                    have Hst := Lib.hid hst
                    clear hst
                    go_wp2_with fail
                    go_quiet (fail)
                    go_wp2_with fail
                    go_roundw
                    case rel => exact ⟨cn + 1, hcl, by go_num, by rw [Hst.out], hky.drewN nq⟩
                    case measure => simp [intOf]; omega
                  · have hne : u.toNat ≠ v.toNat := fun e => huv (UInt8.toNat_inj.1 e)
                    have hd : ((u.toNat : Int) != (v.toNat : Int)) = true := by simp; omega
                    have hd2 : (u.toNat != v.toNat) = true := by simpa using hne
                    have hst : dcnt xl' WL (cn + 1) = dcnt xl' WL cn + 1 := by simp [dcnt, HU.out, HVv.out, huv]
                    have Hst := Lib.hid hst
                    clear hst
                    go_wp2_with fail
                    go_quiet (fail)
                    go_wp2_with fail
                    go_roundw
                    case rel => exact ⟨cn + 1, hcl, by go_num, by rw [Hst.out]; go_num, hky.drewN nq⟩
                    case measure => simp [intOf]; omega
                · obtain rfl : cn = xl'.length := by omega
                  have Kz := K7.trans hky
                  have qA := blk_keep HAV.out Kz (fun h => h)
                  have qB := blk_keep HBV.out Kz (fun h => h)
                  have qa0 := blk_cell qA 0
                  have qb0 := blk_cell qB 0
                  have qa1 := blk_lt qA
                  have qb1 := blk_lt qB
                  have qc := Kz.some HcwX.out (fun h => h)
                  have hbXl := Nat.lt_of_lt_of_le hbX Kz.size
                  have hsx : ∀ n, (convert 27 9 (.slice va WL.length vc)).run Try.prog (wr.drewN n) = .ok (.string ⟨WL.toArray⟩) (wr.drewN n) := fun n => ((HrdX.out.keep Kz (fun _ _ _ _ h => h)).keep ((Keep.refl NoB wr).drewN n) (fun _ _ _ _ h => h)).str
                  have hle1 : ((xl'.length : Int) != (WL.length : Int)) = false := by simp; omega
                  have hle2 : (xl'.length != WL.length) = false := by simp; omega
                  have hcn0 := Hcnt.out
                  simp at qa0 qb0
                  clear qA qB
                  skip
                  go_wp2_with fail
                  go_quiet (fail)
                  go_wp2_with fail
                  go_roundw
                  case rel => exact ⟨mn + 1, hml, by go_num, Kz.drewN nq⟩
                  case measure => simp [intOf]; omega
          · go_wp2_with fail
            refine (len_any B nb a6 c6 1000 k NF _ TX).mono ?_
            rintro _ w9 ⟨rfl, rfl⟩
            go_wp2
            go_ret
            exact ⟨rfl, (K8.trans hkx).below (fun _ _ h => h)⟩
      · have hbad : (p < 0 ∨ (N.length : Int) ≤ p) ∨ ∃ (i : Nat) (x : HE), p = (i : Int) ∧ i < k ∧ N[i]? = some x ∧ x.l = (z i).l ∧ (q < 0 ∨ (x.l.length : Int) ≤ q) := by
          by_cases h1 : 0 ≤ p ∧ p < (k : Int)
          · right
            obtain ⟨i, rfl⟩ : ∃ i : Nat, p = (i : Int) := ⟨p.toNat, by omega⟩
            obtain ⟨x, hx⟩ : ∃ x, N[i]? = some x := ⟨_, List.getElem?_eq_getElem (by omega)⟩
            have hxl := (HP.out i x hx).2.2.2
            refine ⟨i, x, rfl, by omega, hx, hxl, ?_⟩
            rw [hxl]
            simp only [Int.toNat_natCast] at hv
            by_cases h2 : q < 0
            · exact Or.inl h2
            · exact Or.inr (by
                by_cases h3 : q < ((z i).l.length : Int)
                · exact absurd ⟨h1, by omega, h3⟩ hv
                · omega)
          · left; omega
        have hcon : Calls Try.prog 23 #[.pointer (some ⟨nb, 0, none⟩), .int .i64 p, .int .i64 q, .int .u8 b0.toNat] w4 fun e w' => e = .returned (.bool false) ∧ Keep NoB w4 w' := by
          rcases hbad with h | ⟨i, x, rfl, _, hx, _, h⟩
          · exact turn_out B nb a cap 1000 k N p q b0 w4 HT3.out h
          · exact turn_no B nb a cap 1000 k N i q b0 x w4 HT3.out hx (by rcases h with h | h; exact Or.inl h; exact Or.inr (Or.inl h))
        have Hbad := Lib.hid hbad
        clear hbad hv
        refine hcon.mono ?_
        rintro _ w5 ⟨rfl, k5⟩
        have T5 := HT3.out.keep0 k5
        have K5 := K3.trans k5
        have A5 := Lib.hid (blk_keep A3.out k5 (fun h => h))
        have B5 := Lib.hid (blk_keep B3.out k5 (fun h => h))
        have OM5 := HOM.out.keep k5 (fun _ _ h => h)
        have HTX5 := Lib.hid (HTX3.out.keep k5)
        have HMade := Lib.hid (made_no HP.out k 0 0 0)
        have p0 := blk_cell A5.out 0
        have p1 := blk_cell A5.out 1
        have p2 := blk_cell B5.out 0
        have p3 := blk_cell B5.out 1
        have p4 := blk_lt A5.out
        have p5 := blk_lt B5.out
        simp at p0 p1 p2 p3
        clear hcon k5 HT3 K3 HOM
        have hdec : (decide (0 ≤ p) = false) ∨ (decide (0 ≤ p) = true ∧ decide (p < (k : Int)) = false) ∨ (∃ (i : Nat) (xa : Option Addr) (xc : Nat) (xl : List UInt8), p = (i : Int) ∧ i < k ∧ (∃ b off, a0 = some ⟨b, off, none⟩ ∧ b < w5.heap.size ∧ w5.cell? ⟨b, off + i, none⟩ = some (.slice xa xl.length xc)) ∧ ((decide (0 ≤ q) = false) ∨ (decide (0 ≤ q) = true ∧ decide (q < (xl.length : Int)) = false))) := by
          rcases Hbad.out with h | ⟨i, x, rfl, hik, hx, hxl, h⟩
          · have := HN.out
            by_cases h0 : 0 ≤ p
            · right; left; simp; omega
            · left; simp; omega
          · right; right
            obtain ⟨_, _, hrow⟩ := HTX5.out
            rcases hrow with h0 | ⟨b, off, ha, hb, hc⟩
            · omega
            · refine ⟨i, (z i).a, (z i).c, (z i).l, rfl, hik, ⟨b, off, ha, hb, hc i hik⟩, ?_⟩
              rw [hxl] at h
              by_cases h0 : 0 ≤ q
              · right; simp; omega
              · left; simp; omega
        rcases hdec with d1 | ⟨d1, d2⟩ | ⟨i, xa, xc, xl, rfl, hik, ⟨b, off, rfl, hbb, hcw⟩, ⟨d3⟩ | ⟨d3, d4⟩⟩
        all_goals
          go_wp2_with fail
          go_quiet (fail)
          go_wp2_with fail
          have kV : Keep NoB w5 (World.drewN w5 nq) := (Keep.refl _ w5).drewN nq
          generalize World.drewN w5 nq = V at kV ⊢
          have TV := Lib.hid (T5.keep0 kV)
          have KV := K5.trans kV
          have OMV := Lib.hid (OM5.keep kV (fun _ _ h => h))
          have HTXV := Lib.hid (HTX5.out.keep kV)
          have HAV := Lib.hid (blk_keep A5.out kV (fun h => h))
          have HBV := Lib.hid (blk_keep B5.out kV (fun h => h))
          clear T5 K5 OM5 kV p0 p1 p2 p3 p4 p5 HTX5 A3 B3 HTX3
          go_loopw [12] (fun m wx => ∃ mn : Nat, mn ≤ N.length ∧ m = .int .i64 mn ∧ Keep NoB V wx) (fun m _ => N.length - (intOf m).toNat)
          case atStart => exact ⟨0, Nat.zero_le _, rfl, Keep.refl _ _⟩
          case round =>
            obtain ⟨mn, hm, rfl, hkx⟩ := hrel
            have TX := TV.out.keep0 hkx
            by_cases hml : mn < N.length
            · obtain ⟨x, hx⟩ : ∃ x, N[mn]? = some x := ⟨_, List.getElem?_eq_getElem hml⟩
              have hmx := HMade.out mn x hx
              simp at hmx
              have HX := Lib.hid hx
              clear hx
              obtain ⟨xf, xt, xa', xc', xn, xl'⟩ := x
              simp only at hmx
              have hmk : mn < k := by omega
              have d9 : decide (k ≤ mn) = false := by simp; omega
              obtain ⟨WL, hWL⟩ : ∃ l, (z mn).l = l := ⟨_, rfl⟩
              rw [hWL] at hmx
              have hwas := HW.out mn hmk
              rw [hWL] at hwas
              obtain ⟨hmaxX, hokX, hrowX⟩ := HTXV.out
              rcases hrowX with h | ⟨bX, offX, haX, hbX, hcX⟩
              · omega
              cases haX
              have hcwX := hcX mn hmk
              have hrdX := (hokX mn hmk).1
              have hllX := (hokX mn hmk).2
              have hsmX := HSm.out.2 mn hmk
              obtain ⟨va, vc, hva⟩ : ∃ va vc, (z mn).v = .slice va WL.length vc := ⟨(z mn).a, (z mn).c, by rw [← hWL]; rfl⟩
              rw [hva] at hcwX hrdX
              rw [hWL] at hrdX hllX hsmX
              have HWL := Lib.hid hWL
              have Hhmx := Lib.hid hmx
              have Hwas := Lib.hid hwas
              have HcwX := Lib.hid hcwX
              have HrdX := Lib.hid hrdX
              clear hcX hokX hmaxX hva hWL hmx hwas hcwX hrdX
              have hl1 : xl'.length ≤ WL.length := by rw [Hhmx.out]; simp
              have hl2 : WL.length ≤ xl'.length := by rw [Hhmx.out]; simp
              have hcnt : dcnt xl' WL xl'.length = 0 := by
                have h9 := Hhmx.out
                (rw [h9]; exact dcnt_same _ _)
              have Hcnt := Lib.hid hcnt
              clear hcnt
              go_wp2_with fail
              refine (len_any B nb a cap 1000 k N _ TX).mono ?_
              rintro _ w6 ⟨rfl, rfl⟩
              go_wp2_with fail
              refine (look_in B nb a cap 1000 k N mn _ _ TX HX.out).mono ?_
              rintro _ w7 ⟨g7, rfl, hg7, R7, k7⟩
              simp only at R7
              go_wp2_with fail
              have K7 := (hkx.trans k7).alloc (Obj.cells #[Value.int IntKind.i64 (xf), Value.int IntKind.i64 (xt), Value.slice (some ⟨g7, 0, none⟩) (xl'.length) (xl'.length)] 32)
              have R7' := R7.alloc (Obj.cells #[Value.int IntKind.i64 (xf), Value.int IntKind.i64 (xt), Value.slice (some ⟨g7, 0, none⟩) (xl'.length) (xl'.length)] 32)
              have bp := blk_new w7 (Obj.cells #[Value.int IntKind.i64 (xf), Value.int IntKind.i64 (xt), Value.slice (some ⟨g7, 0, none⟩) (xl'.length) (xl'.length)] 32)
              have sp := blk_lt bp
              generalize World.alloc w7 (Obj.cells #[Value.int IntKind.i64 (xf), Value.int IntKind.i64 (xt), Value.slice (some ⟨g7, 0, none⟩) (xl'.length) (xl'.length)] 32) = W7 at K7 R7' bp sp ⊢
              generalize w7.heap.size = pb at bp sp ⊢
              have OM7 := OMV.out.keep K7 (fun _ _ h => h)
              have HR7 := Lib.hid R7'
              have Hbp := Lib.hid bp
              have HOM7 := Lib.hid OM7
              clear R7 R7' k7 hkx TX bp OM7 hg7
              go_loopw [16, 124] (fun o c wy => ∃ cn : Nat, cn ≤ xl'.length ∧ c = .int .i64 cn ∧ o = .int .i64 (dcnt xl' WL cn : Nat) ∧ Keep NoB W7 wy) (fun _ c _ => xl'.length - (intOf c).toNat)
              case atStart => exact ⟨0, Nat.zero_le _, rfl, rfl, Keep.refl _ _⟩
              case round =>
                obtain ⟨cn, hcn, rfl, rfl, hky⟩ := hrel
                have pY := blk_keep Hbp.out hky (fun h => h)
                have y0 := blk_cell pY 0
                have y2 := blk_cell pY 2
                have y3 := blk_lt pY
                simp at y0 y2
                clear pY
                obtain ⟨gs, hv, hs1', hs2', ms0, ms1⟩ := (HOM7.out.keep hky (fun _ _ h => h)).cell1 cS_len Hwas.out rfl
                cases hv
                by_cases hcl : cn < xl'.length
                · obtain ⟨u, hu⟩ : ∃ u, xl'[cn]? = some u := ⟨_, List.getElem?_eq_getElem hcl⟩
                  obtain ⟨v, hgv⟩ : ∃ v, WL[cn]'(by omega) = v := ⟨_, rfl⟩
                  have hvv : WL[cn]? = some v := by rw [List.getElem?_eq_getElem (by omega), hgv]
                  obtain ⟨gu, cu, hvu, _, _, hcu⟩ := (HR7.out.keep hky (fun _ _ h => h)).cells cU_len hu
                  cases hvu
                  have mu := hcu 0 _ rfl
                  simp only [Nat.mul_one, Nat.add_zero] at mu
                  have hcW : cn < WL.length := by omega
                  have hcW2 : (cn : Int) < (WL.length : Int) := by omega
                  have hgv2 : (⟨WL.toArray⟩ : ByteArray)[cn]'(by simp [ByteArray.size]; omega) = v := by rw [ByteArray.getElem_eq_getElem_data]; simpa using hgv
                  have HU := Lib.hid hu
                  have HVv := Lib.hid hvv
                  have hdle := dcnt_le xl' WL cn
                  clear hcu hu hvv
                  by_cases huv : u = v
                  · have hd : ((u.toNat : Int) != (v.toNat : Int)) = false := by simp [huv]
                    have hd2 : (u.toNat != v.toNat) = false := by simp [huv]
                    have hst : dcnt xl' WL (cn + 1) = dcnt xl' WL cn := by simp [dcnt, HU.out, HVv.out, huv]
                    have Hst := Lib.hid hst
                    clear hst
                    go_wp2_with fail
                    go_quiet (fail)
                    go_wp2_with fail
                    go_roundw
                    case rel => exact ⟨cn + 1, hcl, by go_num, by rw [Hst.out], hky.drewN nq⟩
                    case measure => simp [intOf]; omega
                  · have hne : u.toNat ≠ v.toNat := fun e => huv (UInt8.toNat_inj.1 e)
                    have hd : ((u.toNat : Int) != (v.toNat : Int)) = true := by simp; omega
                    have hd2 : (u.toNat != v.toNat) = true := by simpa using hne
                    have hst : dcnt xl' WL (cn + 1) = dcnt xl' WL cn + 1 := by simp [dcnt, HU.out, HVv.out, huv]
                    have Hst := Lib.hid hst
                    clear hst
                    go_wp2_with fail
                    go_quiet (fail)
                    go_wp2_with fail
                    go_roundw
                    case rel => exact ⟨cn + 1, hcl, by go_num, by rw [Hst.out]; go_num, hky.drewN nq⟩
                    case measure => simp [intOf]; omega
                · obtain rfl : cn = xl'.length := by omega
                  have Kz := K7.trans hky
                  have qA := blk_keep HAV.out Kz (fun h => h)
                  have qB := blk_keep HBV.out Kz (fun h => h)
                  have qa0 := blk_cell qA 0
                  have qb0 := blk_cell qB 0
                  have qa1 := blk_lt qA
                  have qb1 := blk_lt qB
                  have qc := Kz.some HcwX.out (fun h => h)
                  have hbXl := Nat.lt_of_lt_of_le hbX Kz.size
                  have hsx : ∀ n, (convert 27 9 (.slice va WL.length vc)).run Try.prog (wr.drewN n) = .ok (.string ⟨WL.toArray⟩) (wr.drewN n) := fun n => ((HrdX.out.keep Kz (fun _ _ _ _ h => h)).keep ((Keep.refl NoB wr).drewN n) (fun _ _ _ _ h => h)).str
                  have hle1 : ((xl'.length : Int) != (WL.length : Int)) = false := by simp; omega
                  have hle2 : (xl'.length != WL.length) = false := by simp; omega
                  have hcn0 := Hcnt.out
                  simp at qa0 qb0
                  clear qA qB
                  skip
                  go_wp2_with fail
                  go_quiet (fail)
                  go_wp2_with fail
                  go_roundw
                  case rel => exact ⟨mn + 1, hml, by go_num, Kz.drewN nq⟩
                  case measure => simp [intOf]; omega
            · go_wp2_with fail
              refine (len_any B nb a cap 1000 k N _ TX).mono ?_
              rintro _ w6 ⟨rfl, rfl⟩
              go_wp2
              go_ret
              exact ⟨rfl, (KV.trans hkx).below (fun _ _ h => h)⟩
end Go.Proofs.Ytbaojfjabhgohaa
