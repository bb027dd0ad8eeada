/- The walk of LruLast. -/
import Derived.Test.YtgbcjnejlelndaaLruReservesW
import Derived.Test.YtgbcjnejlelndaaLibReg
import Derived.Test.YtgbcjnejlelndaaLruLastQ
namespace Go.Proofs.Ytgbcjnejlelndaa
open Go Go.RowKit Go.Maps


/-- A slice that reads as the texts l. -/
def Rs (w : World) (v : Value) (l : List ByteArray) : Prop := ∃ a c, v = .slice a l.length c ∧ ∀ (i : Nat) (x : ByteArray), l[i]? = some x → ∃ b off, a = some ⟨b, off, none⟩ ∧ b < w.heap.size ∧ w.cell? ⟨b, off + i, none⟩ = some (.string x)
theorem Own.rs {w : World} {B : Nat} {v : Value} {l : List ByteArray} (h : Own w B 9 1 cS v l) : Rs w v l := by
  obtain ⟨a, c, rfl⟩ := h.shape
  refine ⟨a, c, rfl, fun i x hx => ?_⟩
  obtain ⟨g, rfl, _, hl, h1, _⟩ := h.cell1 cS_len hx rfl
  exact ⟨g, 0, rfl, hl, by simpa using h1⟩
theorem Rs.keep {w w' : World} {v : Value} {l : List ByteArray} (h : Rs w v l) (hk : Keep NoB w w') : Rs w' v l := by
  obtain ⟨a, c, rfl, h1⟩ := h
  refine ⟨a, c, rfl, fun i x hx => ?_⟩
  obtain ⟨b, off, ha, hb, hc⟩ := h1 i x hx
  exact ⟨b, off, ha, Nat.lt_of_lt_of_le hb hk.size, hk.some hc (fun h => h)⟩
theorem Rs.take {w : World} {a : Option Addr} {n c : Nat} {l : List ByteArray} (h : Rs w (.slice a n c) l) (j : Nat) (hj : j ≤ l.length) (c' : Nat) : Rs w (.slice a j c') (l.take j) := by
  obtain ⟨a', c2, hv, h1⟩ := h
  cases hv
  refine ⟨a, c', by rw [List.length_take, Nat.min_eq_left hj], fun i x hx => ?_⟩
  rw [List.getElem?_take] at hx
  split at hx
  · exact h1 i x hx
  · cases hx

set_option maxHeartbeats 1000000 in
theorem same_any (v1 v2 : Value) (l : List ByteArray) (w : World) (h1 : Rs w v1 l) (h2 : Rs w v2 l) (hl : l.length ≤ 1000000) :
    Calls Try.prog 13 #[v1, v2] w fun e w' => e = .returned (.bool true) ∧ Keep NoB w w' := by
  obtain ⟨a1, c1, rfl, h1⟩ := h1
  obtain ⟨a2, c2, rfl, h2⟩ := h2
  have H1 := Lib.hid h1
  have H2 := Lib.hid h2
  clear h1 h2
  go_enter Try.func13, Try.ntmps13
  go_wp2_with fail
  go_loopw [5] (fun i wr => ∃ m : Nat, m ≤ l.length ∧ i = .int .i64 m ∧ Keep NoB w wr) (fun i _ => l.length - (intOf i).toNat)
  case atStart => exact ⟨0, Nat.zero_le _, rfl, Keep.refl _ _⟩
  case round =>
    obtain ⟨m, hm, rfl, hk⟩ := hrel
    by_cases hml : m < l.length
    · obtain ⟨x, hx⟩ : ∃ x, l[m]? = some x := ⟨_, List.getElem?_eq_getElem hml⟩
      obtain ⟨b1, o1, rfl, hb1, e1⟩ := H1.out m x hx
      obtain ⟨b2, o2, rfl, hb2, e2⟩ := H2.out m x hx
      have m1 := hk.some e1 (fun h => h)
      have m2 := hk.some e2 (fun h => h)
      have n1 := Nat.lt_of_lt_of_le hb1 hk.size
      have n2 := Nat.lt_of_lt_of_le hb2 hk.size
      clear hx e1 e2
      go_wp2_with fail
      go_quiet (fail)
      go_wp2_with fail
      go_roundw
      case rel => exact ⟨m + 1, hml, by go_num, hk.drewN _⟩
      case measure => simp [intOf]; omega
    · go_wp2_with fail
      go_ret
      exact ⟨rfl, hk⟩





/-- The uses are told anew: the key ahead, then all others. -/
theorem str_ne {x y : ByteArray} (h : x ≠ y) : (x.toList == y.toList) = false := by
  rw [ByteArray.toList_eq, ByteArray.toList_eq, beq_eq_false_iff_ne]
  intro e
  apply h
  obtain ⟨⟨x⟩⟩ := x
  obtain ⟨⟨y⟩⟩ := y
  simp at e
  simp [e]
theorem use_snoc (U : List ByteArray) (k : ByteArray) (m : Nat) (x : ByteArray) (hx : U[m]? = some x) : (U.take (m + 1)).filter (fun u => decide (u ≠ k)) = (U.take m).filter (fun u => decide (u ≠ k)) ++ (if x = k then [] else [x]) := by
  rw [List.take_add_one, hx, List.filter_append]
  congr 1
  by_cases h : x = k <;> simp [List.filter_cons, h]

set_option maxRecDepth 100000 in
set_option maxHeartbeats 4000000 in
theorem last_walk (room0 size0 : Int) (a0 : Option Addr) (len0 cap0 : Nat) (z : Nat → ByteArray) (w : World) (h0 : IsStr w a0 len0 z) :
    Calls Try.prog 3 #[.int .i64 room0, .int .i64 size0, .slice a0 len0 cap0] w fun e w' => e = .returned (.bool true) ∧ Below w.heap.size w w' := by
  obtain ⟨hmax, hok, hrow⟩ := h0
  unfold maxLen at hmax
  have hm1 := i64_and255 room0
  have hm2 := i64_and15 size0
  obtain ⟨rm, hrm⟩ : ∃ q, room0 % 256 = q := ⟨_, rfl⟩
  obtain ⟨sz, hsz⟩ : ∃ q, size0 % 16 = q := ⟨_, rfl⟩
  rw [hrm] at hm1
  rw [hsz] at hm2
  have r0 : 0 ≤ rm ∧ rm ≤ 255 := by omega
  have s0 : 0 ≤ sz ∧ sz ≤ 15 := by omega
  obtain ⟨r01, r02⟩ := r0
  obtain ⟨s01, s02⟩ := s0
  clear hrm hsz
  go_enter Try.func3, Try.ntmps3
  go_wp2_with fail
  refine (awake_any _).mono ?_
  rintro _ w1 ⟨rfl, k1⟩
  go_wp2_with fail
  have hR1 : 1 + rm ≤ 9223372036854775807 := by omega
  refine (new_any (1 + rm) (1 + rm) _ (by omega) hR1).mono ?_
  rintro _ w2 ⟨rfl, T2, k2, s2⟩
  have S2 := st_new k1 T2 k2
  generalize w1.heap.size + 1 = cb at *
  generalize w1.heap.size = mb at *
  clear T2 k1 k2 s2 hR1 hm1 hm2
  obtain ⟨q, hq⟩ : ∃ q, ((1 + rm) / (1 + sz)).toNat = q := ⟨_, rfl⟩
  have hQ := quot_le (room := 1 + rm) (s := 1 + sz) (by omega) (by omega)
  rw [hq] at hQ
  have hdiv : (1 + rm) / (1 + sz) = (q : Int) := by have := Int.ediv_nonneg (a := 1 + rm) (b := 1 + sz) (by omega) (by omega); omega
  have hq256 : q ≤ 256 := by have := (hQ q).2 (Nat.le_refl _); have h2 : (q : Int) * 1 ≤ (q : Int) * (1 + sz) := Int.mul_le_mul_of_nonneg_left (by omega) (by omega); omega
  have HQ := Lib.hid hQ
  have HD := Lib.hid hdiv
  clear hq hQ hdiv
  go_wp2_with fail
  go_loopw [8, 9] (fun us i wr => ∃ (k : Nat) (N : List TH) (U : List ByteArray) (aU : Option Addr) (cU : Nat), k ≤ len0 ∧ k ≤ 200 ∧ i = .int .i64 k ∧ us = .slice aU U.length cU ∧ U.length ≤ k ∧ Own wr w.heap.size 9 1 cS (.slice aU U.length cU) U ∧ Lasts (1 + sz) q N U ∧ St w wr cb mb (1 + rm) 0 N k) (fun _ i _ => len0 - (intOf i).toNat)
  case atStart => exact ⟨0, [], [], none, 0, Nat.zero_le _, Nat.zero_le _, rfl, rfl, Nat.le_refl _, ⟨by simp, Or.inl ⟨rfl, rfl⟩⟩, lasts_start _ _, S2⟩
  case round =>
    clear S2
    obtain ⟨k, N, U, aU, cU, hk0, hk200, rfl, rfl, hUl, OU, hL, S⟩ := hrel
    have HL := Lib.hid hL
    clear hL
    by_cases hgo : k < len0 ∧ k < 200
    · obtain ⟨hlt, h200⟩ := hgo
      have h200i : decide ((k : Int) < 200) = true := by simp; omega
      rcases hrow with h | ⟨b, off, rfl, hb, hc⟩
      · omega
      have hcw := hc k hlt
      have hkey := hok k hlt
      clear hc
      generalize z k = key at hcw hkey
      have Hcw := Lib.hid hcw
      have l0 := S.hk.some hcw (fun h => h)
      have hb0 : b < wr.heap.size := Nat.lt_of_lt_of_le hb S.hk.size
      clear hcw
      have HS := Lib.hid S
      have HOU := Lib.hid OU
      clear S OU
      have hend : ∀ (w6 : World) (N' : List TH) (u10 u11 : Value), St w w6 cb mb (1 + rm) 0 N' (k + 1) → Own w6 w.heap.size 9 1 cS (.slice aU U.length cU) U → Lasts (1 + sz) q N' (useK U key) → True := fun _ _ _ _ _ _ _ => trivial
      clear hend
      cases hf : fnd N key with
      | some x3 =>
        have Hf := Lib.hid hf
        have HL' := Lib.hid (lasts_hit HL.out hf)
        clear hf
        go_wp2_with fail
        refine (get_st HS.out key hkey x3.v (getV_some Hf.out) true (by rw [Hf.out]; rfl)).mono ?_
        rintro _ w6 ⟨rfl, S6, o6⟩
        rw [getN_some Hf.out] at S6
        have HS6 := Lib.hid (S6.le (Nat.le_succ k))
        have HO6 := Lib.hid (HOU.out.oth o6 (by decide) (by decide))
        clear S6 o6 l0 hb0
        have l6 := HS6.out.hk.some Hcw.out (fun h => h)
        have hb6 : b < w6.heap.size := Nat.lt_of_lt_of_le hb HS6.out.hk.size
        go_wp2_with fail
        have O8 : Own (World.alloc w6 (.cells #[.string key] 9)) w6.heap.size 9 1 cS (.slice (some ⟨w6.heap.size, 0, none⟩) 1 1) [key] := ⟨rfl, Or.inr ⟨w6.heap.size, 1, #[.string key], rfl, Nat.le_refl _, blk_new w6 _, Nat.le_refl _, by decide, rfl, rfl⟩⟩
        have k8 := (Keep.refl NoB w6).alloc (.cells #[.string key] 9)
        generalize World.alloc w6 (.cells #[.string key] 9) = w8 at O8 k8 ⊢
        clear l6 hb6
        go_loopw [12, 62] (fun l i wy => ∃ (m : Nat) (a : Option Addr) (c : Nat) (V : List ByteArray), m ≤ U.length ∧ i = .int .i64 m ∧ l = .slice a V.length c ∧ key :: (U.take m).filter (fun u => decide (u ≠ key)) = V ∧ V.length ≤ m + 1 ∧ Own wy w6.heap.size 9 1 cS (.slice a V.length c) V ∧ Keep NoB w6 wy) (fun _ i _ => U.length - (intOf i).toNat)
        case atStart => exact ⟨0, _, _, _, Nat.zero_le _, rfl, rfl, by simp, by simp, O8, k8⟩
        case round =>
          clear O8 k8
          obtain ⟨m, a, c, V, hm, rfl, rfl, hV, hVl, O, hky⟩ := hrel
          have HV := Lib.hid hV
          clear hV
          by_cases hml : m < U.length
          · obtain ⟨x, hx⟩ : ∃ x, U[m]? = some x := ⟨_, List.getElem?_eq_getElem hml⟩
            have hsn := use_snoc U key m x hx
            obtain ⟨g1, hv1, _, hl1, m1, _⟩ := (HO6.out.keep hky (fun _ _ h => h)).cell1 cS_len hx rfl
            cases hv1
            have t0 := (HS6.out.hk.trans hky).some Hcw.out (fun h => h)
            have tl : b < wr.heap.size := Nat.lt_of_lt_of_le hb (HS6.out.hk.trans hky).size
            have HSN := Lib.hid hsn
            clear hx hsn
            by_cases hxk : x = key
            · subst hxk
              have hVn : x :: (U.take (m + 1)).filter (fun u => decide (u ≠ x)) = V := by rw [HSN.out, if_pos rfl, List.append_nil, HV.out]
              have HVn := Lib.hid hVn
              clear hVn
              go_wp2_with fail
              go_roundw
              case rel => exact ⟨m + 1, a, c, V, hml, by go_num, rfl, HVn.out, by omega, O, hky⟩
              case measure => simp [intOf]; omega
            · have hd1 := str_ne hxk
              have Hxk := Lib.hid hxk
              obtain ⟨V', hV'⟩ : ∃ l, V ++ [x] = l := ⟨_, rfl⟩
              have HV' := Lib.hid hV'
              have hV'l : V'.length ≤ m + 2 := by rw [← hV']; simp; omega
              have hVn : key :: (U.take (m + 1)).filter (fun u => decide (u ≠ key)) = V' := by rw [HSN.out, if_neg Hxk.out, ← hV', ← HV.out]; rfl
              have HVn := Lib.hid hVn
              have sy := hky.size
              clear hxk hVn hV'
              go_wp2_with (first
                | (at_builtin
                   refine wpList_append_one rfl (.tmp 72) (.tmp 74) 22 rfl Try.underlying22 info9' (by kernel_rfl) (by decide) (by decide) rfl (O.alloc _) cS_len x rfl (c := #[.string x]) (t' := 9) (f := (0, 0)) (by have := blk_new wr (.cells #[.string x] 9); simpa using this) rfl (cS_one _) (by omega) (by simp; omega) HV'.out ?_
                   intro a4 c4 w4 O4 k4
                   have K4 : Keep NoB w6 w4 := (hky.alloc (.cells #[.string x] 9)).trans' k4 (fun i hi e => by have := O.fresh i e; omega)
                   clear k4 O))
              go_roundw
              case rel => exact ⟨m + 1, a4, c4, V', hml, by go_num, rfl, HVn.out, by omega, O4, K4⟩
              case measure => simp [intOf]; omega
          · have hVU : V = useK U key := by rw [← HV.out, List.take_of_length_le (by omega)]; rfl
            have HVU := Lib.hid hVU
            have hVl2 : V.length ≤ k + 1 := by have := length_use U key; rw [← hVU] at this; omega
            have S9 := HS6.out.keep hky
            have HS9 := Lib.hid S9
            have s9 := HS6.out.hk.size
            have HO9 := Lib.hid (O.mono s9)
            clear hVU S9 O s9
            go_wp2_with fail
            go_roundw
            case rel => exact ⟨k + 1, _, V, a, c, hlt, h200, by go_num, rfl, hVl2, HO9.out, by rw [HVU.out]; exact HL'.out, HS9.out⟩
            case measure => simp [intOf]; omega
      | none =>
        have Hf := Lib.hid hf
        clear hf
        go_wp2_with fail
        refine (get_st HS.out key hkey 0 (getV_none Hf.out) false (by rw [Hf.out]; rfl)).mono ?_
        rintro _ w5 ⟨rfl, S5, o5⟩
        rw [getN_none Hf.out] at S5
        have HS5 := Lib.hid S5
        have HO5 := Lib.hid (HOU.out.oth o5 (by decide) (by decide))
        have l5 := S5.hk.some Hcw.out (fun h => h)
        have hb5 : b < w5.heap.size := Nat.lt_of_lt_of_le hb S5.hk.size
        clear S5 o5 l0 hb0 HS HOU
        by_cases hp : 1 + sz ≤ 1 + rm
        · have HL' := fun b' => Lib.hid (lasts_miss HL.out Hf.out HQ.out hp b' (k : Int))
          obtain ⟨M, hM⟩ : ∃ l, (dropK N key).take (wayJ (1 + rm - (1 + sz) - 0) (dropK N key) (dropK N key).length) = l := ⟨_, rfl⟩
          rw [hM] at HL'
          have HM := Lib.hid hM
          have HLL := Lib.hid HL'
          clear hM HL'
          go_wp2_with fail
          refine (put_st HS5.out key (1 + sz) k hkey (by omega) (by omega) (by omega) M _ HM.out rfl).mono ?_
          rintro _ w6 ⟨a6, c6, b6, rfl, _, S6, o6⟩
          have HS6 := Lib.hid S6
          have HO6 := Lib.hid (HO5.out.oth o6 (by decide) (by decide))
          have HL' := HLL.out b6
          clear S6 o6 l5 hb5 HLL
          have l6 := HS6.out.hk.some Hcw.out (fun h => h)
          have hb6 : b < w6.heap.size := Nat.lt_of_lt_of_le hb HS6.out.hk.size
          go_wp2_with fail
          have O8 : Own (World.alloc w6 (.cells #[.string key] 9)) w6.heap.size 9 1 cS (.slice (some ⟨w6.heap.size, 0, none⟩) 1 1) [key] := ⟨rfl, Or.inr ⟨w6.heap.size, 1, #[.string key], rfl, Nat.le_refl _, blk_new w6 _, Nat.le_refl _, by decide, rfl, rfl⟩⟩
          have k8 := (Keep.refl NoB w6).alloc (.cells #[.string key] 9)
          generalize World.alloc w6 (.cells #[.string key] 9) = w8 at O8 k8 ⊢
          clear l6 hb6
          go_loopw [12, 62] (fun l i wy => ∃ (m : Nat) (a : Option Addr) (c : Nat) (V : List ByteArray), m ≤ U.length ∧ i = .int .i64 m ∧ l = .slice a V.length c ∧ key :: (U.take m).filter (fun u => decide (u ≠ key)) = V ∧ V.length ≤ m + 1 ∧ Own wy w6.heap.size 9 1 cS (.slice a V.length c) V ∧ Keep NoB w6 wy) (fun _ i _ => U.length - (intOf i).toNat)
          case atStart => exact ⟨0, _, _, _, Nat.zero_le _, rfl, rfl, by simp, by simp, O8, k8⟩
          case round =>
            clear O8 k8
            obtain ⟨m, a, c, V, hm, rfl, rfl, hV, hVl, O, hky⟩ := hrel
            have HV := Lib.hid hV
            clear hV
            by_cases hml : m < U.length
            · obtain ⟨x, hx⟩ : ∃ x, U[m]? = some x := ⟨_, List.getElem?_eq_getElem hml⟩
              have hsn := use_snoc U key m x hx
              obtain ⟨g1, hv1, _, hl1, m1, _⟩ := (HO6.out.keep hky (fun _ _ h => h)).cell1 cS_len hx rfl
              cases hv1
              have t0 := (HS6.out.hk.trans hky).some Hcw.out (fun h => h)
              have tl : b < wr.heap.size := Nat.lt_of_lt_of_le hb (HS6.out.hk.trans hky).size
              have HSN := Lib.hid hsn
              clear hx hsn
              by_cases hxk : x = key
              · subst hxk
                have hVn : x :: (U.take (m + 1)).filter (fun u => decide (u ≠ x)) = V := by rw [HSN.out, if_pos rfl, List.append_nil, HV.out]
                have HVn := Lib.hid hVn
                clear hVn
                go_wp2_with fail
                go_roundw
                case rel => exact ⟨m + 1, a, c, V, hml, by go_num, rfl, HVn.out, by omega, O, hky⟩
                case measure => simp [intOf]; omega
              · have hd1 := str_ne hxk
                have Hxk := Lib.hid hxk
                obtain ⟨V', hV'⟩ : ∃ l, V ++ [x] = l := ⟨_, rfl⟩
                have HV' := Lib.hid hV'
                have hV'l : V'.length ≤ m + 2 := by rw [← hV']; simp; omega
                have hVn : key :: (U.take (m + 1)).filter (fun u => decide (u ≠ key)) = V' := by rw [HSN.out, if_neg Hxk.out, ← hV', ← HV.out]; rfl
                have HVn := Lib.hid hVn
                have sy := hky.size
                clear hxk hVn hV'
                go_wp2_with (first
                  | (at_builtin
                     refine wpList_append_one rfl (.tmp 72) (.tmp 74) 22 rfl Try.underlying22 info9' (by kernel_rfl) (by decide) (by decide) rfl (O.alloc _) cS_len x rfl (c := #[.string x]) (t' := 9) (f := (0, 0)) (by have := blk_new wr (.cells #[.string x] 9); simpa using this) rfl (cS_one _) (by omega) (by simp; omega) HV'.out ?_
                     intro a4 c4 w4 O4 k4
                     have K4 : Keep NoB w6 w4 := (hky.alloc (.cells #[.string x] 9)).trans' k4 (fun i hi e => by have := O.fresh i e; omega)
                     clear k4 O))
                go_roundw
                case rel => exact ⟨m + 1, a4, c4, V', hml, by go_num, rfl, HVn.out, by omega, O4, K4⟩
                case measure => simp [intOf]; omega
            · have hVU : V = useK U key := by rw [← HV.out, List.take_of_length_le (by omega)]; rfl
              have HVU := Lib.hid hVU
              have hVl2 : V.length ≤ k + 1 := by have := length_use U key; rw [← hVU] at this; omega
              have S9 := HS6.out.keep hky
              have HS9 := Lib.hid S9
              have s9 := HS6.out.hk.size
              have HO9 := Lib.hid (O.mono s9)
              clear hVU S9 O s9
              go_wp2_with fail
              go_roundw
              case rel => exact ⟨k + 1, _, V, a, c, hlt, h200, by go_num, rfl, hVl2, HO9.out, by rw [HVU.out]; exact HL'.out, HS9.out⟩
              case measure => simp [intOf]; omega
        · have hq0 : q = 0 := by
            cases q with
            | zero => rfl
            | succ q' => have := (HQ.out 1).2 (by omega); omega
          have Hq0 := Lib.hid hq0
          have HL' : Hid (Lasts (1 + sz) q (dropK N key) (useK U key)) := Lib.hid (by have h := HL.out; rw [Hq0.out] at h ⊢; exact lasts_none h key)
          clear hq0
          go_wp2_with fail
          refine (putno_st HS5.out key (1 + sz) k hkey (by omega)).mono ?_
          rintro _ w6 ⟨rfl, S6, o6⟩
          have HS6 := Lib.hid (S6.le (Nat.le_succ k))
          have HO6 := Lib.hid (HO5.out.oth o6 (by decide) (by decide))
          clear S6 o6 l5 hb5
          have l6 := HS6.out.hk.some Hcw.out (fun h => h)
          have hb6 : b < w6.heap.size := Nat.lt_of_lt_of_le hb HS6.out.hk.size
          go_wp2_with fail
          have O8 : Own (World.alloc w6 (.cells #[.string key] 9)) w6.heap.size 9 1 cS (.slice (some ⟨w6.heap.size, 0, none⟩) 1 1) [key] := ⟨rfl, Or.inr ⟨w6.heap.size, 1, #[.string key], rfl, Nat.le_refl _, blk_new w6 _, Nat.le_refl _, by decide, rfl, rfl⟩⟩
          have k8 := (Keep.refl NoB w6).alloc (.cells #[.string key] 9)
          generalize World.alloc w6 (.cells #[.string key] 9) = w8 at O8 k8 ⊢
          clear l6 hb6
          go_loopw [12, 62] (fun l i wy => ∃ (m : Nat) (a : Option Addr) (c : Nat) (V : List ByteArray), m ≤ U.length ∧ i = .int .i64 m ∧ l = .slice a V.length c ∧ key :: (U.take m).filter (fun u => decide (u ≠ key)) = V ∧ V.length ≤ m + 1 ∧ Own wy w6.heap.size 9 1 cS (.slice a V.length c) V ∧ Keep NoB w6 wy) (fun _ i _ => U.length - (intOf i).toNat)
          case atStart => exact ⟨0, _, _, _, Nat.zero_le _, rfl, rfl, by simp, by simp, O8, k8⟩
          case round =>
            clear O8 k8
            obtain ⟨m, a, c, V, hm, rfl, rfl, hV, hVl, O, hky⟩ := hrel
            have HV := Lib.hid hV
            clear hV
            by_cases hml : m < U.length
            · obtain ⟨x, hx⟩ : ∃ x, U[m]? = some x := ⟨_, List.getElem?_eq_getElem hml⟩
              have hsn := use_snoc U key m x hx
              obtain ⟨g1, hv1, _, hl1, m1, _⟩ := (HO6.out.keep hky (fun _ _ h => h)).cell1 cS_len hx rfl
              cases hv1
              have t0 := (HS6.out.hk.trans hky).some Hcw.out (fun h => h)
              have tl : b < wr.heap.size := Nat.lt_of_lt_of_le hb (HS6.out.hk.trans hky).size
              have HSN := Lib.hid hsn
              clear hx hsn
              by_cases hxk : x = key
              · subst hxk
                have hVn : x :: (U.take (m + 1)).filter (fun u => decide (u ≠ x)) = V := by rw [HSN.out, if_pos rfl, List.append_nil, HV.out]
                have HVn := Lib.hid hVn
                clear hVn
                go_wp2_with fail
                go_roundw
                case rel => exact ⟨m + 1, a, c, V, hml, by go_num, rfl, HVn.out, by omega, O, hky⟩
                case measure => simp [intOf]; omega
              · have hd1 := str_ne hxk
                have Hxk := Lib.hid hxk
                obtain ⟨V', hV'⟩ : ∃ l, V ++ [x] = l := ⟨_, rfl⟩
                have HV' := Lib.hid hV'
                have hV'l : V'.length ≤ m + 2 := by rw [← hV']; simp; omega
                have hVn : key :: (U.take (m + 1)).filter (fun u => decide (u ≠ key)) = V' := by rw [HSN.out, if_neg Hxk.out, ← hV', ← HV.out]; rfl
                have HVn := Lib.hid hVn
                have sy := hky.size
                clear hxk hVn hV'
                go_wp2_with (first
                  | (at_builtin
                     refine wpList_append_one rfl (.tmp 72) (.tmp 74) 22 rfl Try.underlying22 info9' (by kernel_rfl) (by decide) (by decide) rfl (O.alloc _) cS_len x rfl (c := #[.string x]) (t' := 9) (f := (0, 0)) (by have := blk_new wr (.cells #[.string x] 9); simpa using this) rfl (cS_one _) (by omega) (by simp; omega) HV'.out ?_
                     intro a4 c4 w4 O4 k4
                     have K4 : Keep NoB w6 w4 := (hky.alloc (.cells #[.string x] 9)).trans' k4 (fun i hi e => by have := O.fresh i e; omega)
                     clear k4 O))
                go_roundw
                case rel => exact ⟨m + 1, a4, c4, V', hml, by go_num, rfl, HVn.out, by omega, O4, K4⟩
                case measure => simp [intOf]; omega
            · have hVU : V = useK U key := by rw [← HV.out, List.take_of_length_le (by omega)]; rfl
              have HVU := Lib.hid hVU
              have hVl2 : V.length ≤ k + 1 := by have := length_use U key; rw [← hVU] at this; omega
              have S9 := HS6.out.keep hky
              have HS9 := Lib.hid S9
              have s9 := HS6.out.hk.size
              have HO9 := Lib.hid (O.mono s9)
              clear hVU S9 O s9
              go_wp2_with fail
              go_roundw
              case rel => exact ⟨k + 1, _, V, a, c, hlt, h200, by go_num, rfl, hVl2, HO9.out, by rw [HVU.out]; exact HL'.out, HS9.out⟩
              case measure => simp [intOf]; omega
    · have hout : (¬ k < len0 ∧ decide ((k : Int) < (len0 : Int)) = false) ∨ (k < len0 ∧ ¬ k < 200 ∧ decide ((k : Int) < 200) = false) := by
        by_cases h1 : k < len0
        · right
          have : ¬ k < 200 := fun h => hgo ⟨h1, h⟩
          exact ⟨h1, this, by simp; omega⟩
        · left
          exact ⟨h1, by simp; omega⟩
      have HS := Lib.hid S
      have HOU := Lib.hid OU
      clear hgo S OU
      have hUl2 : U.length ≤ 200 := by omega
      obtain ⟨G0, hG0⟩ : ∃ l, N.map (·.k) = l := ⟨_, rfl⟩
      have hG1 : G0 = U.take (min U.length q) := by
        rw [← hG0, HL.out.keys]
        by_cases h : U.length ≤ q
        · rw [List.take_of_length_le h, Nat.min_eq_left h, List.take_length]
        · rw [Nat.min_eq_right (by omega)]
      have HG0 := Lib.hid hG0
      have HG1 := Lib.hid hG1
      clear hG0 hG1
      obtain ⟨nU, hnU⟩ : ∃ n, min U.length q = n := ⟨_, rfl⟩
      have hmn : min (U.length : Int) ((1 + rm) / (1 + sz)) = (nU : Int) := by rw [HD.out]; omega
      have HMN := Lib.hid hmn
      have HnU := Lib.hid hnU
      have hroom := HOU.out.room.2
      unfold maxLen at hroom
      obtain ⟨hroom1, hroom2⟩ := hroom
      have hnc : nU ≤ cU := by omega
      have hnl : nU ≤ U.length := by omega
      have hsz0 : 1 + sz ≠ 0 := by omega
      have hsz1 : ((1 + sz) == 0) = false := by simp; omega
      have hka : k ≤ 100000 := by omega
      clear hnU hmn
      have hsh : (aU = none ∧ cU = 0 ∧ U = []) ∨ ∃ g, aU = some ⟨g, 0, none⟩ := by
        rcases HOU.out.2 with ⟨hv, hn⟩ | ⟨g, cap, cur, hv, _⟩
        · simp only [Value.slice.injEq] at hv
          exact Or.inl ⟨hv.1, hv.2.2, List.eq_nil_of_length_eq_zero hv.2.1⟩
        · simp only [Value.slice.injEq] at hv
          exact Or.inr ⟨g, hv.1⟩
      rcases hsh with ⟨rfl, rfl, rfl⟩ | ⟨g, rfl⟩
      · have hn0 : nU = 0 := by simpa using hnl
        have hG1' : G0 = [] := by rw [HG1.out]; simp
        have HG1' := Lib.hid hG1'
        clear hG1'
        subst hn0
        rcases hout with ⟨h1, hd⟩ | ⟨h1, h2, hd⟩
        all_goals
          as_aux_lemma =>
          go_wp2_with (refine wpList_min2 _ rfl _ _ _ _ rfl _ _ rfl rfl ((0 : Nat) : Int) HMN.out ?_)
          refine wp_region_plan (fun _ => True) [] [(true, 0), (true, 2), (true, 3), (true, 4), (false, 1), (false, 5), (false, 6)] (by kernel_rfl) (by kernel_rfl) (by kernel_rfl) (by kernel_rfl) (by intro c b d v u h; cases d <;> exact h) ?_
          refine plan_get (i := 0) rfl rfl trivial rfl (fun u hu => by (try dsimp only at hu); go_simp; rfl) (by simp only [List.setIfInBounds_toArray, List.set_cons_succ, List.set_cons_zero]; rfl) ?_
          refine plan_get (i := 2) rfl rfl trivial rfl (fun u hu => by (try dsimp only at hu); go_simp; rfl) (by simp only [List.setIfInBounds_toArray, List.set_cons_succ, List.set_cons_zero]; rfl) ?_
          refine plan_get (i := 3) rfl rfl trivial rfl (fun u hu => by (try dsimp only at hu); go_simp; rfl) (by simp only [List.setIfInBounds_toArray, List.set_cons_succ, List.set_cons_zero]; rfl) ?_
          refine plan_get (i := 4) rfl rfl trivial rfl (fun u hu => by (try dsimp only at hu); go_simp; rfl) (by simp only [List.setIfInBounds_toArray, List.set_cons_succ, List.set_cons_zero]; rfl) ?_
          refine plan_one (i := 1) rfl ?_
          go_wp2_with ((go_at_call 14; refine (keys_st (HS.out.keep ((Keep.refl NoB wr).drew)) hka G0 HG0.out).mono ?_; rintro _ w7 ⟨a7, c7, rfl, O7, k7⟩))
          refine after_next (fun _ => trivial) ?_
          have hR2 := ((HOU.out.rs.keep ((Keep.refl NoB wr).drew)).keep k7).take 0 hnl 0
          rw [show (([] : List ByteArray).take 0) = G0 from by rw [HG1'.out]; rfl] at hR2
          have hlG : G0.length ≤ 1000000 := by rw [HG1'.out]; simp
          have HR2 := Lib.hid hR2
          have HR1 := Lib.hid O7.rs
          have HK7 := Lib.hid (((HS.out.hk).drew).trans k7)
          clear hR2 O7 k7
          refine plan_one (i := 5) rfl ?_
          go_wp2_with fail
          refine (same_any _ _ G0 w7 HR1.out HR2.out hlG).mono ?_
          rintro _ w8 ⟨rfl, k8⟩
          go_wp2_with fail
          refine after_next (fun _ => trivial) ?_
          refine plan_one (i := 6) rfl ?_
          go_wp2_with (fail)
          refine after_next (fun _ => trivial) ?_
          refine plan_done ?_
          go_wp2_with fail
          go_ret
          exact ⟨rfl, (HK7.out.trans k8).below (fun _ _ h => h)⟩
      · rcases hout with ⟨h1, hd⟩ | ⟨h1, h2, hd⟩
        all_goals
          as_aux_lemma =>
          go_wp2_with (refine wpList_min2 _ rfl _ _ _ _ rfl _ _ rfl rfl ((nU : Nat) : Int) HMN.out ?_)
          refine wp_region_plan (fun _ => True) [] [(true, 0), (true, 2), (true, 3), (true, 4), (false, 1), (false, 5), (false, 6)] (by kernel_rfl) (by kernel_rfl) (by kernel_rfl) (by kernel_rfl) (by intro c b d v u h; cases d <;> exact h) ?_
          refine plan_get (i := 0) rfl rfl trivial rfl (fun u hu => by (try dsimp only at hu); go_simp; rfl) (by simp only [List.setIfInBounds_toArray, List.set_cons_succ, List.set_cons_zero]; rfl) ?_
          refine plan_get (i := 2) rfl rfl trivial rfl (fun u hu => by (try dsimp only at hu); go_simp; rfl) (by simp only [List.setIfInBounds_toArray, List.set_cons_succ, List.set_cons_zero]; rfl) ?_
          refine plan_get (i := 3) rfl rfl trivial rfl (fun u hu => by (try dsimp only at hu); go_simp; rfl) (by simp only [List.setIfInBounds_toArray, List.set_cons_succ, List.set_cons_zero]; rfl) ?_
          refine plan_get (i := 4) rfl rfl trivial rfl (fun u hu => by (try dsimp only at hu); go_simp; rfl) (by simp only [List.setIfInBounds_toArray, List.set_cons_succ, List.set_cons_zero]; rfl) ?_
          refine plan_one (i := 1) rfl ?_
          go_wp2_with ((go_at_call 14; refine (keys_st (HS.out.keep ((Keep.refl NoB wr).drew)) hka G0 HG0.out).mono ?_; rintro _ w7 ⟨a7, c7, rfl, O7, k7⟩))
          refine after_next (fun _ => trivial) ?_
          have hR2 := ((HOU.out.rs.keep ((Keep.refl NoB wr).drew)).keep k7).take nU hnl cU
          have hG1' : U.take nU = G0 := by rw [← HnU.out]; exact HG1.out.symm
          rw [hG1'] at hR2
          have hlG : G0.length ≤ 1000000 := by rw [HG1.out, List.length_take]; omega
          have HR2 := Lib.hid hR2
          have HR1 := Lib.hid O7.rs
          have HK7 := Lib.hid (((HS.out.hk).drew).trans k7)
          clear hR2 O7 k7
          refine plan_one (i := 5) rfl ?_
          go_wp2_with fail
          refine (same_any _ _ G0 w7 HR1.out HR2.out hlG).mono ?_
          rintro _ w8 ⟨rfl, k8⟩
          go_wp2_with fail
          refine after_next (fun _ => trivial) ?_
          refine plan_one (i := 6) rfl ?_
          go_wp2_with (fail)
          refine after_next (fun _ => trivial) ?_
          refine plan_done ?_
          go_wp2_with fail
          go_ret
          exact ⟨rfl, (HK7.out.trans k8).below (fun _ _ h => h)⟩
end Go.Proofs.Ytgbcjnejlelndaa
