/- The walk of ScriptParts. -/
import Derived.Test.YtijllpjddbonjaaDoorScriptE
namespace Go.Proofs.YtijllpjddbonjaaDoor
open Go Go.RowKit Go.Maps

/-! ### appends of what came in -/
theorem run_append_own_none (w : World) {base : Nat} (t ty e : TypeId) (i : TypeInfo) {size : Nat} (ht : Tryd.prog.underlying t = some (.slice e)) (hi : Tryd.prog.info? e = some i) {v : Value} {n : Nat} {xs : List Value} (hown : w.ownsRow base e size v n xs) (c : Nat) :
    (Builtin.append_ #[t, t] ty #[v, .slice none 0 c]).run Tryd.prog w = .ok v w := by
  rcases hown.2 with ⟨rfl, hn⟩ | ⟨g, cap, cur, rfl, hbg, hg, hnc, hcm, hcs, htake⟩
  · subst hn
    simp [Builtin.append_, run_underlying ht, sizeOf, typeInfo, hi, Builtin.lenOf, Builtin.firstCells]
  · simp [Builtin.append_, run_underlying ht, sizeOf, typeInfo, hi, Builtin.lenOf, Builtin.firstCells, hnc, storeCells]

/-- The bytes of a slice that came in, as a list. -/
def zList (z : Nat → UInt8) (n : Nat) : List UInt8 := (List.range n).map z
theorem zList_len (z : Nat → UInt8) (n : Nat) : (zList z n).length = n := by simp [zList]
theorem zList_get {z : Nat → UInt8} {n i : Nat} (h : i < n) : (zList z n)[i]? = some (z i) := by
  unfold zList
  rw [List.getElem?_map, List.getElem?_range h]
  rfl

/-- 's = append(s, x...)', x bytes that came in, nil or not. -/
theorem wpList_own_ba {w : World} {ops : Array Oper} {o : Oper} {a : Act} {Q : Exit → Act → World → Prop} {rest : List Oper} (hgd : o.guard = none) (s x : Operand) (ho : o.op = .call { callee := .builtin .append, args := #[s, x], argTypes := #[22, 22] })
    {B : Nat} {v : Value} {N : List UInt8} (hs : a.eval s = v) (hown : Own w B 5 1 cU v N) {ad : Option Addr} {n c : Nat} {z : Nat → UInt8} (hx : a.eval x = .slice ad n c) (hr : BA w ad n z)
    (hbytes : N.length + n ≤ 140737488355328) (hbase : B ≤ w.heap.size) {N' : List UInt8} (hN' : N ++ zList z n = N')
    (h : ∀ a' cap' w', Own w' B 5 1 cU (.slice a' N'.length cap') N' → Keep (fun g => v.ownBlock = some g) w w' → wpList Tryd.prog ops Q rest (a.put o.dst (.slice a' N'.length cap')) w') : wpList Tryd.prog ops Q (o :: rest) a w := by
  cases ad with
  | some ad =>
    refine wpList_append_list hgd s x 22 ho Tryd.underlying22 info5' (by kernel_rfl) (by decide) (by decide) hs hown cU_len cU_one (zList z n) hx (zList_len z n).symm ?_ (by rw [zList_len]; omega) hbase hN' h
    intro j u hj
    rw [flat_cU, List.getElem?_map] at hj
    have hjn : j < n := by
      rcases Nat.lt_or_ge j n with h' | h'
      · exact h'
      · rw [List.getElem?_eq_none (by rw [zList_len]; exact h')] at hj; cases hj
    rw [zList_get hjn] at hj
    cases hj
    rcases hr with h0 | ⟨b, off, ha, hb, hc⟩
    · omega
    · cases ha
      have hadd : (⟨b, off, none⟩ : Addr).add j = ⟨b, off + j, none⟩ := by
        unfold Addr.add
        split
        · rename_i h; subst h; rfl
        · rfl
      rw [hadd]
      exact hc j hjn
  | none =>
    have hn : n = 0 := by
      rcases hr with h0 | ⟨b, off, ha, _⟩
      · exact h0
      · cases ha
    subst hn
    have hN0 : N = N' := by rw [← hN']; simp [zList]
    subst hN0
    obtain ⟨i, hi, _⟩ := info_parts info5'
    obtain ⟨a', c', rfl⟩ := hown.shape
    have hrun := run_append_own_none w 22 o.type 5 i Tryd.underlying22 hi hown c
    refine wpList_plain hgd fun K hK => ?_
    unfold Oper.wp
    simp [execOp, ho, resolve, invoke, builtin, hs, hx, hrun, Result.andThen]
    exact hK _ _ (h a' c' w hown (Keep.refl _ _))

/-! ### the parts -/
def zL' (L : List UInt8) (i : Nat) : UInt8 := L.getD i 0
theorem zcat_lo {z1 z2 : Nat → UInt8} {n m i : Nat} (h : i < n) : zL' (zList z1 n ++ zList z2 m) i = z1 i := by
  unfold zL'
  rw [List.getD_eq_getElem?_getD, List.getElem?_append_left (by rw [zList_len]; exact h), zList_get h]
  rfl
theorem zcat_hi {z1 z2 : Nat → UInt8} {n m i : Nat} (h : i < m) : zL' (zList z1 n ++ zList z2 m) (n + i) = z2 i := by
  unfold zL'
  rw [List.getD_eq_getElem?_getD, List.getElem?_append_right (by rw [zList_len]; omega), zList_len, show n + i - n = i by omega, zList_get h]
  rfl
theorem op_lo {z1 z2 : Nat → UInt8} {q m i : Nat} (h : i < q) : opAt (zL' (zList z1 (4 * q) ++ zList z2 m)) i = opAt z1 i := by
  unfold opAt
  rw [zcat_lo (by omega), zcat_lo (by omega), zcat_lo (by omega), zcat_lo (by omega)]
theorem op_hi {z1 z2 : Nat → UInt8} {q m i : Nat} (h : 4 * i + 3 < m) : opAt (zL' (zList z1 (4 * q) ++ zList z2 m)) (q + i) = opAt z2 i := by
  unfold opAt
  rw [show 4 * (q + i) = 4 * q + 4 * i by omega, zcat_hi (by omega), show 4 * q + 4 * i + 1 = 4 * q + (4 * i + 1) by omega, zcat_hi (by omega), show 4 * q + 4 * i + 2 = 4 * q + (4 * i + 2) by omega, zcat_hi (by omega), show 4 * q + 4 * i + 3 = 4 * q + (4 * i + 3) by omega, zcat_hi (by omega)]

theorem Own.BA' {w : World} {B : Nat} {a : Option Addr} {c : Nat} {L : List UInt8} (h : Own w B 5 1 cU (.slice a L.length c) L) : BA w a L.length (zL' L) := by
  rcases L with _ | ⟨x, r⟩
  · exact Or.inl rfl
  · obtain ⟨g, rfl, _, hg⟩ := Own.some h (by simp)
    refine Or.inr ⟨g, 0, rfl, hg, fun i hi => ?_⟩
    obtain ⟨g', c', hv, _, _, hc⟩ := h.cells cU_len (List.getElem?_eq_getElem hi)
    cases hv
    have := hc 0 _ rfl
    rw [show 0 + i = i by omega]
    simp only [Nat.mul_one, Nat.add_zero] at this
    rw [this]
    congr 3
    unfold zL'
    rw [List.getD_eq_getElem?_getD, List.getElem?_eq_getElem hi]
    rfl

set_option maxRecDepth 100000 in
set_option maxHeartbeats 8000000 in
theorem parts_walk (a1 : Option Addr) (n1 c1 : Nat) (z1 : Nat → UInt8) (a2 : Option Addr) (n2 c2 : Nat) (z2 : Nat → UInt8) (w : World) (hn1 : n1 ≤ c1) (hc1 : c1 ≤ maxLen) (h1 : BA w a1 n1 z1) (hn2 : n2 ≤ c2) (hc2 : c2 ≤ maxLen) (h2 : BA w a2 n2 z2) (ht : HTab w) :
    Calls Tryd.prog 5 #[.slice a1 n1 c1, .slice a2 n2 c2] w fun e w' => e = .returned (.bool true) ∧ Below w.heap.size w w' := by
  have hc1' := hc1
  have hc2' := hc2
  unfold maxLen at hc1' hc2'
  go_enter Tryd.func5, Tryd.ntmps5
  go_wp2_with fail
  refine (awake_any _ ht).mono ?_
  rintro _ w1 ⟨rfl, k1⟩
  have hcase : (10000 < n1 ∧ decide ((10000 : Int) < (n1 : Int)) = true) ∨ (n1 ≤ 10000 ∧ decide ((10000 : Int) < (n1 : Int)) = false ∧ ((10000 < n2 ∧ decide ((10000 : Int) < (n2 : Int)) = true) ∨ (n2 ≤ 10000 ∧ decide ((10000 : Int) < (n2 : Int)) = false))) := by
    simp
    omega
  rcases hcase with ⟨_, hd⟩ | ⟨hs1, hd1, ⟨_, hd2⟩ | ⟨hs2, hd2⟩⟩
  · go_wp2
    go_ret
    exact ⟨rfl, k1.below (fun _ _ h => h)⟩
  · go_wp2
    go_ret
    exact ⟨rfl, k1.below (fun _ _ h => h)⟩
  · obtain ⟨q, hq⟩ : ∃ q, n1 / 4 = q := ⟨_, rfl⟩
    have e1 : (n1 : Int) / 4 = (q : Int) := by omega
    have e2 : (q : Int) * 4 = ((4 * q : Nat) : Int) := by omega
    have e3 : 4 * q ≤ n1 := by omega
    have e4 : q ≤ 2500 := by omega
    have ka : Keep NoB w1 (w1.alloc (.cells #[] 5)) := (Keep.refl NoB w1).alloc _
    have Ka := k1.trans ka
    have sa : w1.heap.size ≤ (w1.alloc (.cells #[] 5)).heap.size := ka.size
    have O0 := Own.empty w1 (Nat.le_refl _) 5 1 cU
    have hB1 : BA (w1.alloc (.cells #[] 5)) a1 (4 * q) z1 := by
      rcases h1.keep Ka with h0 | ⟨b, off, ha, hb, hc⟩
      · exact Or.inl (by omega)
      · exact Or.inr ⟨b, off, ha, hb, fun i hi => hc i (by omega)⟩
    have HB1 := Lib.hid hB1
    have HO0 := Lib.hid O0
    have HKa := Lib.hid Ka
    have Hsa := Lib.hid sa
    have Hka := Lib.hid ka
    obtain ⟨L1, hL1⟩ : ∃ l, zList z1 (4 * q) = l := ⟨_, rfl⟩
    obtain ⟨L2, hL2⟩ : ∃ l, L1 ++ zList z2 n2 = l := ⟨_, rfl⟩
    have hL1l : L1.length = 4 * q := by rw [← hL1, zList_len]
    have hL2l : L2.length = 4 * q + n2 := by rw [← hL2, List.length_append, zList_len, hL1l]
    have HL1 := Lib.hid hL1
    have HL2 := Lib.hid hL2
    have HL1l := Lib.hid hL1l
    have HL2l := Lib.hid hL2l
    have H1 := Lib.hid h1
    have H2 := Lib.hid h2
    clear hL1 hL2 hL1l hL2l ka Ka sa O0 hB1 h1 h2
    go_wp2_with (first
      | (at_builtin
         refine wpList_own_ba rfl (.tmp 25) (.tmp 26) rfl rfl HO0.out rfl HB1.out (by simp; omega) Hsa.out HL1.out ?_
         intro a4 c4 w4 O4 k4
         have k4' : Keep NoB w1 w4 := HO0.out.knob Hka.out k4
         have K4 := k1.trans k4'
         have s4 := k4'.size
         clear k4)
      | (at_builtin
         refine wpList_own_ba rfl (.tmp 27) (.tmp 28) rfl rfl O4 rfl (H2.out.keep K4) (by have := HL1l.out; omega) s4 HL2.out ?_
         intro a5 c5 w5 O5 k5
         have k5' : Keep NoB w1 w5 := O4.knob k4' k5
         have K5 := k1.trans k5'
         clear k5))
    obtain ⟨VA, hVA⟩ : ∃ V, decK (zL' L2) (L2.length / 4) = V := ⟨_, rfl⟩
    obtain ⟨VX, hVX⟩ : ∃ V, decK z1 (4 * q / 4) = V := ⟨_, rfl⟩
    obtain ⟨VY, hVY⟩ : ∃ V, decK z2 (n2 / 4) = V := ⟨_, rfl⟩
    have hXl : VX.length = q := by rw [← hVX, decK_len]; omega
    have hYl : VY.length = n2 / 4 := by rw [← hVY, decK_len]
    have hAl : VA.length = VX.length + VY.length := by rw [← hVA, decK_len, hXl, hYl, HL2l.out]; omega
    have hlo : ∀ i, i < VX.length → VA[i]? = VX[i]? := by
      intro i hi
      rw [← hVA, ← hVX]
      unfold decK
      rw [List.getElem?_map, List.getElem?_map, List.getElem?_range (by rw [HL2l.out]; omega), List.getElem?_range (by omega), ← HL2.out, ← HL1.out]
      show some (opAt _ i) = some _
      rw [op_lo (by omega)]
    have hhi : ∀ i, i < VY.length → VA[VX.length + i]? = VY[i]? := by
      intro i hi
      rw [← hVA, ← hVY, hXl]
      unfold decK
      rw [List.getElem?_map, List.getElem?_map, List.getElem?_range (by rw [HL2l.out]; omega), List.getElem?_range (by omega), ← HL2.out, ← HL1.out]
      show some (opAt _ (q + i)) = some _
      rw [op_hi (by omega)]
    have hsm : VX.length ≤ 2500 ∧ VY.length ≤ 2500 ∧ VA.length ≤ 5000 := by omega
    obtain ⟨hsm1, hsm2, hsm3⟩ := hsm
    have hL2s : L2.length ≤ 20000 := by rw [HL2l.out]; omega
    have HVA := Lib.hid hVA
    have HVX := Lib.hid hVX
    have HVY := Lib.hid hVY
    have HAl := Lib.hid hAl
    have Hlo := Lib.hid hlo
    have Hhi := Lib.hid hhi
    clear hVA hVX hVY hAl hlo hhi hXl hYl
    have hroom := O5.room
    refine (dec_any a5 L2.length c5 (zL' L2) _ hroom.2.1 hroom.2.2 (Own.BA' O5) (by omega) VA HVA.out).mono ?_
    rintro _ w6 ⟨a6, c6, rfl, O6, k6⟩
    have K6 := K5.trans k6
    clear hroom O5 k5' k6 K5 O4 k4' K4
    go_wp2_with fail
    refine (dec_any a1 (4 * q) c1 z1 _ (by omega) hc1 ?_ (by omega) VX HVX.out).mono ?_
    · rcases H1.out.keep K6 with h0 | ⟨b, off, ha, hb, hc⟩
      · exact Or.inl (by omega)
      · exact Or.inr ⟨b, off, ha, hb, fun i hi => hc i (by omega)⟩
    rintro _ w7 ⟨a7, c7, rfl, O7, k7⟩
    have K7 := K6.trans k7
    have O6' := O6.keep k7 (fun _ _ h => h)
    go_wp2_with fail
    refine (dec_any a2 n2 c2 z2 _ hn2 hc2 (H2.out.keep K7) (by omega) VY HVY.out).mono ?_
    rintro _ w8 ⟨a8, c8, rfl, O8, k8⟩
    have K8 := K7.trans k8
    have O6'' := O6'.keep k8 (fun _ _ h => h)
    have O7' := O7.keep k8 (fun _ _ h => h)
    clear O6 O6' O7 k7 k8 K6 K7
    have hne1 : ((VA.length : Int) != (VX.length : Int) + (VY.length : Int)) = false := by have := HAl.out; simp; omega
    have hne2 : (VA.length != VX.length + VY.length) = false := by have := HAl.out; simp; omega
    go_wp2_with fail
    clear hne1 hne2
    go_loopw [45] (fun i wr => ∃ m : Nat, m ≤ VA.length ∧ i = .int .i64 (m : Int) ∧ Keep NoB w8 wr) (fun i _ => VA.length - (intOf i).toNat)
    case atStart => exact ⟨0, Nat.zero_le _, rfl, Keep.refl _ _⟩
    case round =>
      obtain ⟨m, hm, rfl, kr⟩ := hrel
      by_cases hml : m < VA.length
      · obtain ⟨x, hx⟩ : ∃ x, VA[m]? = some x := ⟨_, List.getElem?_eq_getElem hml⟩
        obtain ⟨g6, c6', hv, _, hg6, hq6⟩ := (O6''.keep kr (fun _ _ h => h)).cells encOp_len hx
        cases hv
        by_cases hmx : m < VX.length
        · have hy := hx
          rw [Hlo.out m hmx] at hy
          obtain ⟨g7, c7', hv, _, hg7, hq7⟩ := (O7'.keep kr (fun _ _ h => h)).cells encOp_len hy
          cases hv
          obtain ⟨x0, x1, x2, x3⟩ := x
          have m0 := hq6 0 _ rfl
          have m1 := hq6 1 _ rfl
          have m2 := hq6 2 _ rfl
          have m3 := hq6 3 _ rfl
          have q0 := hq7 0 _ rfl
          have q1 := hq7 1 _ rfl
          have q2 := hq7 2 _ rfl
          have q3 := hq7 3 _ rfl
          simp only [Nat.add_zero] at m0 q0
          clear hx hy hq6 hq7
          have hd3 : decide (VX.length ≤ m) = false := by simp; omega
          have hd4 : decide (m < VX.length) = true := by simp; omega
          go_wp2_with fail
          go_quiet (fail)
          go_wp2_with fail
          go_roundw
          case rel => exact ⟨m + 1, hml, by go_num, kr.drewN _⟩
          case measure => simp [intOf]; omega
        · obtain ⟨j, hj⟩ : ∃ j, m = VX.length + j := ⟨m - VX.length, by omega⟩
          have hjy : j < VY.length := by have := HAl.out; omega
          have hy := hx
          rw [hj, Hhi.out j hjy] at hy
          obtain ⟨g8, c8', hv, _, hg8, hq8⟩ := (O8.keep kr (fun _ _ h => h)).cells encOp_len hy
          cases hv
          obtain ⟨x0, x1, x2, x3⟩ := x
          have m0 := hq6 0 _ rfl
          have m1 := hq6 1 _ rfl
          have m2 := hq6 2 _ rfl
          have m3 := hq6 3 _ rfl
          have q0 := hq8 0 _ rfl
          have q1 := hq8 1 _ rfl
          have q2 := hq8 2 _ rfl
          have q3 := hq8 3 _ rfl
          simp only [Nat.add_zero] at m0 q0
          clear hx hy hq6 hq8
          have hd3 : decide (VX.length ≤ m) = true := by simp; omega
          have hd4 : decide (m < VX.length) = false := by simp; omega
          have p1 : IntKind.i64.wrap ((m : Int) - (VX.length : Int)) = (m : Int) - (VX.length : Int) := by rw [IntKind.wrap_i64]; omega
          have p2 : (0 : Int) ≤ (m : Int) - (VX.length : Int) := by omega
          have p3 : (m : Int) - (VX.length : Int) < (VY.length : Int) := by omega
          have p4 : ((m : Int) - (VX.length : Int)).toNat = j := by omega
          have p5 : (VX.length : Int) ≤ (m : Int) := by omega
          have Hj := Lib.hid hj
          clear hj
          go_wp2_with fail
          go_quiet (fail)
          go_wp2_with fail
          go_roundw
          case rel => exact ⟨m + 1, hml, by go_num, kr.drewN _⟩
          case measure => simp [intOf]; omega
      · have hd3 : decide ((m : Int) < (VA.length : Int)) = false := decide_eq_false (by omega)
        go_wp2
        go_ret
        exact ⟨rfl, (K8.trans kr).below (fun _ _ h => h)⟩
end Go.Proofs.YtijllpjddbonjaaDoor
