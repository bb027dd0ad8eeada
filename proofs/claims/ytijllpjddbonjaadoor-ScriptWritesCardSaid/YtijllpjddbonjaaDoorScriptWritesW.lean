/- The walk of ScriptWrites. -/
import Derived.Test.YtijllpjddbonjaaDoorScriptE
namespace Go.Proofs.YtijllpjddbonjaaDoor
open Go Go.RowKit Go.Maps

def inB (x : SOp) : Prop := (0 ≤ x.1 ∧ x.1 ≤ 25) ∧ (0 ≤ x.2.1 ∧ x.2.1 ≤ 255) ∧ (0 ≤ x.2.2.1 ∧ x.2.2.1 ≤ 255) ∧ 0 ≤ x.2.2.2 ∧ x.2.2.2 ≤ 255
theorem dec_or (p : Prop) [Decidable p] {q : Prop} (h : p → q) : decide p = false ∨ (decide p = true ∧ q) := by
  by_cases hp : p
  · exact Or.inr ⟨decide_eq_true hp, h hp⟩
  · exact Or.inl (decide_eq_false hp)

theorem encL_get : ∀ (N : List SOp) (i : Nat) (x : SOp) (j : Nat), N[i]? = some x → j < 4 → (encL N)[4 * i + j]? = (e4 x)[j]?
  | [], i, x, j, h, _ => by simp at h
  | y :: N, 0, x, j, h, hj => by
    simp at h
    subst h
    show (e4 y ++ encL N)[4 * 0 + j]? = _
    rw [List.getElem?_append_left (by rw [e4_len]; omega), show 4 * 0 + j = j by omega]
  | y :: N, i + 1, x, j, h, hj => by
    have ih := encL_get N i x j (by simpa using h) hj
    show (e4 y ++ encL N)[4 * (i + 1) + j]? = _
    rw [List.getElem?_append_right (by rw [e4_len]; omega), e4_len, ← ih]
    congr 1
    omega
def zL (L : List UInt8) (i : Nat) : UInt8 := L.getD i 0
theorem zL_enc {N : List SOp} {i : Nat} {x : SOp} (h : N[i]? = some x) {j : Nat} (hj : j < 4) {b : UInt8} (hb : (e4 x)[j]? = some b) : zL (encL N) (4 * i + j) = b := by
  unfold zL
  rw [List.getD_eq_getElem?_getD, encL_get N i x j h hj, hb]
  rfl
theorem b8_in {n : Int} (h : 0 ≤ n ∧ n ≤ 255) : ((b8 n).toNat : Int) = n := by rw [b8_nat]; omega
theorem dec_enc {N : List SOp} {i : Nat} {x : SOp} (h : N[i]? = some x) (hx : inB x) : opAt (zL (encL N)) i = x := by
  obtain ⟨x0, x1, x2, x3⟩ := x
  obtain ⟨h0, h1, h2, h3⟩ := hx
  simp only at h0 h1 h2 h3
  unfold opAt
  have e0 : zL (encL N) (4 * i) = b8 x0 := zL_enc h (j := 0) (by decide) rfl
  rw [e0, zL_enc h (j := 1) (b := b8 x1) (by decide) rfl, zL_enc h (j := 2) (b := b8 x2) (by decide) rfl, zL_enc h (j := 3) (b := b8 x3) (by decide) rfl, b8_in (by omega), b8_in h1, b8_in h2, b8_in h3, Int.emod_eq_of_lt h0.1 (by omega)]

theorem Own.BA {w : World} {B : Nat} {a : Option Addr} {c : Nat} {L : List UInt8} (h : Own w B 5 1 cU (.slice a L.length c) L) : BA w a L.length (zL L) := by
  rcases L with _ | ⟨x, r⟩
  · exact Or.inl rfl
  · obtain ⟨g, rfl, _, hg⟩ := Own.some h (by simp)
    refine Or.inr ⟨g, 0, rfl, hg, fun i hi => ?_⟩
    obtain ⟨g', c', hv, _, _, hc⟩ := h.cells cU_len (List.getElem?_eq_getElem hi)
    cases hv
    have := hc 0 _ rfl
    rw [show 0 + i = i by omega]
    simp only [Nat.mul_one, Nat.add_zero] at this
    rw [this]
    congr 3
    unfold zL
    rw [List.getD_eq_getElem?_getD, List.getElem?_eq_getElem hi]
    rfl


set_option maxRecDepth 100000 in
set_option maxHeartbeats 8000000 in
theorem writes_walk (a : Option Addr) (n cap : Nat) (z : Nat → SOp) (w : World) (h : IsOps w a n z) (ht : HTab w) :
    Calls Tryd.prog 6 #[.slice a n cap] w fun e w' => e = .returned (.bool true) ∧ Below w.heap.size w w' := by
  have hmax := h.1
  unfold maxLen at hmax
  have Hh := Lib.hid h
  clear h
  go_enter Tryd.func6, Tryd.ntmps6
  go_wp2_with fail
  refine (awake_any _ ht).mono ?_
  rintro _ w1 ⟨rfl, k1⟩
  by_cases h50 : n ≤ 10000
  case neg =>
    have hd : decide ((10000 : Int) < (n : Int)) = true := by simp; omega
    go_wp2
    go_ret
    exact ⟨rfl, k1.below (fun _ _ h => h)⟩
  case pos =>
  have hd : decide ((10000 : Int) < (n : Int)) = false := by simp; omega
  go_wp2_with fail
  clear hd
  go_loopw [3, 4, 17] (fun o fv iv wr => ∃ (m : Nat) (f : Bool) (N : List SOp) (a' : Option Addr) (c' : Nat), m ≤ n ∧ iv = .int .i64 (m : Int) ∧ fv = .bool f ∧ o = .slice a' N.length c' ∧ Own wr w.heap.size 29 4 encOp (.slice a' N.length c') N ∧ opsL z m = N ∧ (f = true → ∀ x ∈ N, inB x) ∧ Keep NoB w wr) (fun _ _ iv _ => n - (intOf iv).toNat)
  case atStart => exact ⟨0, true, [], none, 0, Nat.zero_le _, rfl, rfl, rfl, Own.nil _ _ _ _ _, rfl, by simp, k1⟩
  case round =>
    obtain ⟨m, f, N, a', c', hm, rfl, rfl, rfl, O, hN, hf, kr⟩ := hrel
    have HNl := Lib.hid (show N.length = m by rw [← hN, opsL_len])
    have HN := Lib.hid hN
    have Hf := Lib.hid hf
    clear hN hf
    by_cases hml : m < n
    · obtain ⟨_, hok, hrow⟩ := Hh.out
      rcases hrow with h0 | ⟨b, off, rfl, hb, hc⟩
      · omega
      obtain ⟨m0, m1, m2, m3⟩ := hc m hml
      have hM' : opsL z (m + 1) = N ++ [z m] := by rw [opsL_succ, HN.out]
      generalize z m = x at m0 m1 m2 m3 hM'
      obtain ⟨N', hN'⟩ : ∃ l, N ++ [x] = l := ⟨_, rfl⟩
      rw [hN'] at hM'
      have HM' := Lib.hid hM'
      obtain ⟨x0, x1, x2, x3⟩ := x
      simp only at m0 m1 m2 m3
      have HN' := Lib.hid hN'
      have l0 := kr.some m0 (fun h => h)
      have l1 := kr.some m1 (fun h => h)
      have l2 := kr.some m2 (fun h => h)
      have l3 := kr.some m3 (fun h => h)
      have hbw := Nat.lt_of_lt_of_le hb kr.size
      have hlen : N.length + 1 ≤ 100000 := by have := HNl.out; omega
      have hcase : f = false ∨ (f = true ∧ (decide (0 ≤ x0) = false ∨ (decide (0 ≤ x0) = true ∧ (decide (x0 ≤ 25) = false ∨ (decide (x0 ≤ 25) = true ∧ (decide (0 ≤ x1) = false ∨ (decide (0 ≤ x1) = true ∧ (decide (x1 ≤ 255) = false ∨ (decide (x1 ≤ 255) = true ∧ (decide (0 ≤ x2) = false ∨ (decide (0 ≤ x2) = true ∧ (decide (x2 ≤ 255) = false ∨ (decide (x2 ≤ 255) = true ∧ (decide (0 ≤ x3) = false ∨ (decide (0 ≤ x3) = true ∧ (decide (x3 ≤ 255) = false ∨ (decide (x3 ≤ 255) = true ∧ inB (x0, x1, x2, x3)))))))))))))))))) := by
        cases f
        · exact Or.inl rfl
        · exact Or.inr ⟨rfl, dec_or _ fun h0 => dec_or _ fun h1 => dec_or _ fun h2 => dec_or _ fun h3 => dec_or _ fun h4 => dec_or _ fun h5 => dec_or _ fun h6 => dec_or _ fun h7 => ⟨⟨h0, h1⟩, ⟨h2, h3⟩, ⟨h4, h5⟩, h6, h7⟩⟩
      have b1 := blk_new wr (.cells #[.int .i64 x0, .int .i64 x1, .int .i64 x2, .int .i64 x3] 30)
      have b1' := blk_alloc (o' := .cells #[.int .i64 x0, .int .i64 x1, .int .i64 x2, .int .i64 x3] 29) b1
      have Hb1 := Lib.hid (show ((wr.alloc (.cells #[.int .i64 x0, .int .i64 x1, .int .i64 x2, .int .i64 x3] 30)).alloc (.cells #[.int .i64 x0, .int .i64 x1, .int .i64 x2, .int .i64 x3] 29)).cell? ⟨wr.heap.size, 0, none⟩ = some (.int .i64 x0) ∧ ((wr.alloc (.cells #[.int .i64 x0, .int .i64 x1, .int .i64 x2, .int .i64 x3] 30)).alloc (.cells #[.int .i64 x0, .int .i64 x1, .int .i64 x2, .int .i64 x3] 29)).cell? ⟨wr.heap.size, 1, none⟩ = some (.int .i64 x1) ∧ ((wr.alloc (.cells #[.int .i64 x0, .int .i64 x1, .int .i64 x2, .int .i64 x3] 30)).alloc (.cells #[.int .i64 x0, .int .i64 x1, .int .i64 x2, .int .i64 x3] 29)).cell? ⟨wr.heap.size, 2, none⟩ = some (.int .i64 x2) ∧ ((wr.alloc (.cells #[.int .i64 x0, .int .i64 x1, .int .i64 x2, .int .i64 x3] 30)).alloc (.cells #[.int .i64 x0, .int .i64 x1, .int .i64 x2, .int .i64 x3] 29)).cell? ⟨wr.heap.size, 3, none⟩ = some (.int .i64 x3) from ⟨blk_cell b1' 0, blk_cell b1' 1, blk_cell b1' 2, blk_cell b1' 3⟩)
      have ka : Keep NoB wr ((wr.alloc (.cells #[.int .i64 x0, .int .i64 x1, .int .i64 x2, .int .i64 x3] 30)).alloc (.cells #[.int .i64 x0, .int .i64 x1, .int .i64 x2, .int .i64 x3] 29)) := ((Keep.refl NoB wr).alloc _).alloc _
      have HKa := Lib.hid (kr.trans ka)
      have Hsa := Lib.hid HKa.out.size
      have HOa := Lib.hid (O.keep ka (fun _ _ h => h))
      have Hba := Lib.hid (blk_new (wr.alloc (.cells #[.int .i64 x0, .int .i64 x1, .int .i64 x2, .int .i64 x3] 30)) (.cells #[.int .i64 x0, .int .i64 x1, .int .i64 x2, .int .i64 x3] 29))
      have Hnb := Lib.hid (show ¬ (Value.slice a' N.length c').ownBlock = some wr.heap.size from fun e => by have := (World.ownsRow.lt O _ e).2; omega)
      clear hc hok m0 m1 m2 m3 hM' hN' b1 b1' ka O kr
      rcases hcase with rfl | ⟨rfl, d0 | ⟨d0, d1 | ⟨d1, d2 | ⟨d2, d3 | ⟨d3, d4 | ⟨d4, d5 | ⟨d5, d6 | ⟨d6, d7 | ⟨d7, hin⟩⟩⟩⟩⟩⟩⟩⟩⟩
      rotate_right 1
      · have Hin := Lib.hid hin
        clear hin
        as_aux_lemma =>
        go_wp2_with (first
          | (at_builtin
             refine wpList_append_one rfl (.tmp 24) (.tmp 34) 24 rfl Tryd.underlying24 info29' (by kernel_rfl) (by decide) (by decide) rfl HOa.out encOp_len (x0, x1, x2, x3) (by simp; rfl) Hba.out rfl (encOp_one _) (by omega) Hsa.out HN'.out ?_
             intro a4 c4 w4 O4 k4
             have K4 := HOa.out.knob HKa.out k4
             have q0 : w4.cell? ⟨wr.heap.size, 0, none⟩ = some (.int .i64 x0) := k4.some Hb1.out.1 Hnb.out
             have q1 : w4.cell? ⟨wr.heap.size, 1, none⟩ = some (.int .i64 x1) := k4.some Hb1.out.2.1 Hnb.out
             have q2 : w4.cell? ⟨wr.heap.size, 2, none⟩ = some (.int .i64 x2) := k4.some Hb1.out.2.2.1 Hnb.out
             have q3 : w4.cell? ⟨wr.heap.size, 3, none⟩ = some (.int .i64 x3) := k4.some Hb1.out.2.2.2 Hnb.out
             have ql : wr.heap.size < w4.heap.size := Nat.lt_of_lt_of_le (by simp; omega) k4.size
             clear k4))
        go_roundw
        case rel => exact ⟨m + 1, true, N', a4, c4, hml, by go_num, rfl, rfl, O4, HM'.out, fun _ x hx => by
          rw [← HN'.out] at hx
          rcases List.mem_append.1 hx with hx | hx
          · exact Hf.out rfl x hx
          · rw [List.mem_singleton.1 hx]; exact Hin.out, K4⟩
        case measure => simp [intOf]; omega
      all_goals
        as_aux_lemma =>
        go_wp2_with (first
          | (at_builtin
             refine wpList_append_one rfl (.tmp 24) (.tmp 34) 24 rfl Tryd.underlying24 info29' (by kernel_rfl) (by decide) (by decide) rfl HOa.out encOp_len (x0, x1, x2, x3) (by simp; rfl) Hba.out rfl (encOp_one _) (by omega) Hsa.out HN'.out ?_
             intro a4 c4 w4 O4 k4
             have K4 := HOa.out.knob HKa.out k4
             have q0 : w4.cell? ⟨wr.heap.size, 0, none⟩ = some (.int .i64 x0) := k4.some Hb1.out.1 Hnb.out
             have q1 : w4.cell? ⟨wr.heap.size, 1, none⟩ = some (.int .i64 x1) := k4.some Hb1.out.2.1 Hnb.out
             have q2 : w4.cell? ⟨wr.heap.size, 2, none⟩ = some (.int .i64 x2) := k4.some Hb1.out.2.2.1 Hnb.out
             have q3 : w4.cell? ⟨wr.heap.size, 3, none⟩ = some (.int .i64 x3) := k4.some Hb1.out.2.2.2 Hnb.out
             have ql : wr.heap.size < w4.heap.size := Nat.lt_of_lt_of_le (by simp; omega) k4.size
             clear k4))
        go_roundw
        case rel => exact ⟨m + 1, false, N', a4, c4, hml, by go_num, rfl, rfl, O4, HM'.out, (fun h => by cases h), K4⟩
        case measure => simp [intOf]; omega
    · have hd2 : decide ((m : Int) < (n : Int)) = false := decide_eq_false (by omega)
      obtain rfl : m = n := by omega
      have hNn : N.length = m := HNl.out
      obtain ⟨L, hL⟩ : ∃ L, encL N = L := ⟨_, rfl⟩
      have hLl : L.length = N.length * 4 := by rw [← hL, encL_len]
      have hL4 : L.length ≤ 40000 := by omega
      have HL := Lib.hid hL
      have HNn := Lib.hid hNn
      obtain ⟨V, hV⟩ : ∃ V, decK (zL L) (L.length / 4) = V := ⟨_, rfl⟩
      have hVl : V.length = N.length := by rw [← hV, decK_len]; omega
      have hVx : f = true → ∀ (i : Nat) (x : SOp), N[i]? = some x → V[i]? = some x := by
        intro hft i x hx
        have hx' := Hf.out hft x (List.mem_of_getElem? hx)
        have hil := (List.getElem?_eq_some_iff.1 hx).1
        rw [← hV]
        unfold decK
        rw [List.getElem?_map, List.getElem?_range (by omega), ← hL]
        show some (opAt (zL (encL N)) i) = some x
        rw [dec_enc hx hx']
      have HV := Lib.hid hV
      have HVx := Lib.hid hVx
      have hNsmall : N.length ≤ 10000 := by omega
      have hVsmall : V.length ≤ 10000 := by omega
      have hq1 : ((V.length : Int) == (N.length : Int)) = true := by simp [hVl]
      have hq2 : (V.length == N.length) = true := by simp [hVl]
      have Hq2 := Lib.hid hq2
      have Hq1 := Lib.hid hq1
      have HVl := Lib.hid hVl
      clear hL hNn hLl hV hVx hq1 hq2 hVl Hf
      go_wp2_with fail
      refine (enc_any _ a' c' N _ O (by omega) L HL.out).mono ?_
      rintro _ w2 ⟨a2, c2, rfl, O2, k2⟩
      have K2 := kr.trans k2
      have On2 := O.keep k2 (fun _ _ h => h)
      go_wp2_with fail
      refine (renc_any a m cap z _ ⟨Hh.out.1, Hh.out.2.1, ?_⟩ (by omega) L (by rw [HN.out, HL.out])).mono ?_
      · rcases Hh.out.2.2 with h0 | ⟨b, off, ha, hb, hc⟩
        · exact Or.inl h0
        · exact Or.inr ⟨b, off, ha, Nat.lt_of_lt_of_le hb K2.size, fun i hi => ks4 (hc i hi) K2⟩
      rintro _ w3 ⟨a3, c3, rfl, O3, k3⟩
      have K3 := K2.trans k3
      have On3 := On2.keep k3 (fun _ _ h => h)
      have O2' := O2.keep k3 (fun _ _ h => h)
      go_wp2_with fail
      refine (same_any _ _ a2 a3 c2 c3 L _ O2' O3).mono ?_
      rintro _ w3 ⟨rfl, rfl⟩
      have hroom := O2'.room
      have hBA := Own.BA O2'
      go_wp2_with fail
      refine (dec_any a2 L.length c2 (zL L) _ hroom.2.1 hroom.2.2 hBA (by omega) V HV.out).mono ?_
      rintro _ w4 ⟨a4, c4, rfl, O4, k4⟩
      have K4 := K3.trans k4
      have On4 := On3.keep k4 (fun _ _ h => h)
      clear O O2 O2' O3 On2 On3 k2 k3 k4 K2 K3 hroom hBA kr hd2
      go_wp2_with fail
      go_loopw [89] (fun i wx => ∃ j : Nat, j ≤ V.length ∧ i = .int .i64 (j : Int) ∧ Keep NoB w4 wx) (fun i _ => V.length - (intOf i).toNat)
      case atStart => exact ⟨0, Nat.zero_le _, rfl, Keep.refl _ _⟩
      case round =>
        obtain ⟨j, hj, rfl, kj⟩ := hrel
        by_cases hjl : j < V.length
        · cases f with
          | false =>
            go_wp2_with fail
            go_quiet (fail)
            go_wp2_with fail
            go_roundw
            case rel => exact ⟨j + 1, hjl, by go_num, kj.drewN _⟩
            case measure => simp [intOf]; omega
          | true =>
            have hjN : j < N.length := by have := HVl.out; omega
            obtain ⟨x, hx⟩ : ∃ x, N[j]? = some x := ⟨_, List.getElem?_eq_getElem hjN⟩
            have hy := HVx.out rfl j x hx
            obtain ⟨g2, c2', hv, _, hg2, hc2⟩ := (On4.keep kj (fun _ _ h => h)).cells encOp_len hx
            cases hv
            obtain ⟨g3, c3', hv, _, hg3, hc3⟩ := (O4.keep kj (fun _ _ h => h)).cells encOp_len hy
            cases hv
            obtain ⟨x0, x1, x2, x3⟩ := x
            have m0 := hc2 0 _ rfl
            have m1 := hc2 1 _ rfl
            have m2 := hc2 2 _ rfl
            have m3 := hc2 3 _ rfl
            have q0 := hc3 0 _ rfl
            have q1 := hc3 1 _ rfl
            have q2 := hc3 2 _ rfl
            have q3 := hc3 3 _ rfl
            simp only [Nat.add_zero] at m0 q0
            clear hx hy hc2 hc3
            go_wp2_with fail
            go_quiet (fail)
            go_wp2_with fail
            go_roundw
            case rel => exact ⟨j + 1, hjl, by go_num, kj.drewN _⟩
            case measure => simp [intOf]; omega
        · have hd3 : decide ((j : Int) < (V.length : Int)) = false := decide_eq_false (by omega)
          have hq1 := Hq1.out
          have hq2 := Hq2.out
          go_wp2_with fail
          go_ret
          exact ⟨rfl, (K4.trans kj).below (fun _ _ h => h)⟩
end Go.Proofs.YtijllpjddbonjaaDoor
