/- The walk of LruReserves. -/
import Derived.Test.YtgbcjnejlelndaaLruQ
import Derived.OpenShut
namespace Go.Proofs.Ytgbcjnejlelndaa
open Go Go.RowKit Go.Maps

theorem Own.oth {α : Type} {w w' : World} {B size : Nat} {e : TypeId} {enc : α → List Value} {v : Value} {M : List α} (h : Own w B e size enc v M) (ho : Oth w w') (h1 : e ≠ 60) (h2 : e ≠ 64) : Own w' B e size enc v M := by
  refine ⟨h.1, ?_⟩
  rcases h.2 with hn | ⟨g, cap, cur, rfl, hb, hg, rest⟩
  · exact .inl hn
  · exact .inr ⟨g, cap, cur, rfl, hb, ho _ _ _ _ hg h1 h2, rest⟩

theorem goneK_get {N : List TH} {j i : Nat} (hj : j ≤ N.length) {x : ByteArray} (h : (goneK N j)[i]? = some x) : (N.map (·.k))[N.length - 1 - i]? = some x := by
  have hi : i < N.length - j := by rw [← goneK_length]; exact (List.getElem?_eq_some_iff.1 h).1
  unfold goneK at h
  rw [List.getElem?_map, List.getElem?_reverse (by simp; omega), List.getElem?_drop, List.length_drop] at h
  rw [List.getElem?_map, ← h]
  congr 2
  omega


/-- What is left and what went, and what was. -/
def Parts (G0 G1 G2 : List ByteArray) : Prop := G1.length + G2.length = G0.length ∧ (∀ (i : Nat) (x : ByteArray), G1[i]? = some x → G0[i]? = some x) ∧ (∀ (i : Nat) (x : ByteArray), G2[i]? = some x → G0[G0.length - 1 - i]? = some x)

theorem parts_take (N : List TH) (j : Nat) (hj : j ≤ N.length) : Parts (N.map (·.k)) ((N.take j).map (·.k)) (goneK N j) := by
  refine ⟨by rw [goneK_length]; simp; omega, fun i x h => ?_, fun i x h => ?_⟩
  · rw [List.getElem?_map] at h ⊢
    rw [List.getElem?_take] at h
    split at h
    · exact h
    · cases h
  · have := goneK_get hj h
    simpa using this

theorem parts_all (N : List TH) : Parts (N.map (·.k)) (N.map (·.k)) [] := by
  refine ⟨by simp, fun _ _ h => h, fun i x h => by simp at h⟩




set_option maxRecDepth 100000 in
set_option maxHeartbeats 4000000 in
theorem reserves_walk (room : Int) (hroom : room ≤ 9223372036854775807) (a0 : Option Addr) (len0 cap0 : Nat) (z : Nat → LTh) (n : Int) (w : World) (h0 : IsTh w a0 len0 z) :
    Calls Try.prog 6 #[.int .i64 room, .slice a0 len0 cap0, .int .i64 n] w fun e w' => e = .returned (.bool true) ∧ Below w.heap.size w w' := by
  obtain ⟨hmax, hok, hrow⟩ := h0
  unfold maxLen at hmax
  obtain ⟨r, hr⟩ : ∃ r, max room 0 = r := ⟨_, rfl⟩
  have hr1 : r ≤ 9223372036854775807 := by omega
  have hr3 : 0 ≤ r := by omega
  have Hr := Lib.hid hr
  clear hr
  go_enter Try.func6, Try.ntmps6
  go_wp2_with fail
  refine (awake_any _).mono ?_
  rintro _ w1 ⟨rfl, k1⟩
  go_wp2_with fail
  refine (new_any room r _ Hr.out hr1).mono ?_
  rintro _ w2 ⟨rfl, T2, k2, s2⟩
  have S2 := st_new k1 T2 k2
  generalize w1.heap.size + 1 = cb at *
  generalize w1.heap.size = mb at *
  clear T2 k1 k2 s2
  go_wp2_with fail
  go_loopw [8] (fun i wr => ∃ (k : Nat) (N : List TH), k ≤ len0 ∧ k ≤ 200 ∧ i = .int .i64 k ∧ St w wr cb mb r 0 N k) (fun i _ => len0 - (intOf i).toNat)
  case atStart => exact ⟨0, [], Nat.zero_le _, Nat.zero_le _, rfl, S2⟩
  case round =>
    clear S2
    obtain ⟨k, N, hk0, hk200, rfl, S⟩ := hrel
    by_cases hgo : k < len0 ∧ k < 200
    · obtain ⟨hlt, h200⟩ := hgo
      have h200i : decide ((k : Int) < 200) = true := by simp; omega
      rcases hrow with h | ⟨b, off, rfl, hb, hc⟩
      · omega
      have hcw := hc k hlt
      have hop := hok k hlt
      clear hc
      generalize hzk : z k = x at hcw hop
      clear hzk
      obtain ⟨key, s, g⟩ := x
      have l0 := S.hk.some (hcw 0 (by omega)) (fun h => h)
      have l1 := S.hk.some (hcw 1 (by omega)) (fun h => h)
      simp only [Nat.add_zero] at l0 l1
      have hb0 : b < wr.heap.size := Nat.lt_of_lt_of_le hb S.hk.size
      obtain ⟨hkey, _⟩ := hop
      simp only at hkey
      clear hcw
      have HS := Lib.hid S
      clear S
      go_wp2_with fail
      refine wp_region_tail 12 (by kernel_rfl) (by kernel_rfl) ?_
      simp only [List.take_succ_cons, List.take_zero, List.drop_succ_cons, List.drop_zero]
      repeat still_step
      refine wpStill_nil ?_
      go_wp2_with fail
      have SV := HS.out.keep ((Keep.refl NoB wr).drew)
      by_cases hp : 0 ≤ s ∧ s ≤ r - 0
      · obtain ⟨hp1, hp2⟩ := hp
        refine (put_st SV key s k hkey hp1 hp2 (by omega) _ _ rfl rfl).mono ?_
        rintro _ w6 ⟨a6, c6, b6, rfl, _, S6, _⟩
        have HS6 := Lib.hid S6
        clear S6 SV
        go_wp2_with fail
        go_roundw
        case rel => exact ⟨k + 1, _, hlt, h200, by go_num, HS6.out⟩
        case measure => simp [intOf]; omega
      · refine (putno_st SV key s k hkey (by omega)).mono ?_
        rintro _ w6 ⟨rfl, S6, _⟩
        have HS6 := Lib.hid S6
        clear S6 SV
        go_wp2_with fail
        go_roundw
        case rel => exact ⟨k + 1, _, hlt, h200, by go_num, HS6.out.le (by omega)⟩
        case measure => simp [intOf]; omega
    · have hout : (¬ k < len0 ∧ decide ((k : Int) < (len0 : Int)) = false) ∨ (k < len0 ∧ ¬ k < 200 ∧ decide ((k : Int) < 200) = false) := by
        by_cases h1 : k < len0
        · right
          have : ¬ k < 200 := fun h => hgo ⟨h1, h⟩
          exact ⟨h1, this, by simp; omega⟩
        · left
          exact ⟨h1, by simp; omega⟩
      have HS := Lib.hid S
      have hk1 : k ≤ 100000 := by omega
      have hNl : N.length ≤ k := S.len
      obtain ⟨G0, hG0⟩ : ∃ l, N.map (·.k) = l := ⟨_, rfl⟩
      have HG0 := Lib.hid hG0
      clear hgo S hG0
      rcases hout with ⟨h1, hd⟩ | ⟨h1, h2, hd⟩
      all_goals
        go_wp2_with fail
        refine (keys_st HS.out hk1 G0 HG0.out).mono ?_
        rintro _ w3 ⟨a3, c3, rfl, O3, k3⟩
        have S3 := HS.out.keep k3
        have HO3 := Lib.hid O3
        have HS3 := Lib.hid S3
        clear O3 S3 k3 hd
        go_wp2_with fail
        have hmx : (if room < 0 then 0 else room) = r := by have := Hr.out; split <;> omega
        by_cases hp : 0 ≤ n ∧ n ≤ r - 0
        · as_aux_lemma =>
          obtain ⟨hp1, hp2⟩ := hp
          obtain ⟨N', hN'⟩ : ∃ l, N.take (wayJ (r - n - 0) N N.length) = l := ⟨_, rfl⟩
          obtain ⟨G2, hG2⟩ : ∃ l, goneK N (wayJ (r - n - 0) N N.length) = l := ⟨_, rfl⟩
          obtain ⟨G1, hG1⟩ : ∃ l, N'.map (·.k) = l := ⟨_, rfl⟩
          have HP : Hid (Parts G0 G1 G2) := Lib.hid (by rw [← HG0.out, ← hG1, ← hN', ← hG2]; exact parts_take N _ (wayJ_le _ _ _))
          have HG1 := Lib.hid hG1
          have HN' := Lib.hid hN'
          have HG2 := Lib.hid hG2
          clear hN' hG1 hG2
          refine (res_st HS3.out n hp1 hp2 hk1 N' G2 HN'.out HG2.out).mono ?_
          rintro _ w4 ⟨a4, c4, rfl, OG, S4, o4⟩
          rw [Int.zero_add] at S4
          have HS4 := Lib.hid S4
          have HO4 := Lib.hid (HO3.out.oth o4 (by decide) (by decide))
          have HOG := Lib.hid OG
          have Hkp : Hid (n = if true then n else 0) := Lib.hid rfl
          have d1 : decide (0 ≤ n) = true := by simpa using hp1
          have d2 : decide (n ≤ r) = true := by simp; omega
          clear S4 OG o4 HO3 HS3
          go_wp2_with fail
          have hgg0 : G0.length ≤ 100000 := by rw [← HG0.out]; simp; omega
          have hgg1 : G1.length ≤ 100000 := by have := HP.out.1; omega
          have hgg2 : G2.length ≤ 100000 := by have := HP.out.1; omega
          have hln1 : ((G1.length : Int) + (G2.length : Int) != (G0.length : Int)) = false := by have := HP.out.1; simp; omega
          have hln2 : (G1.length + G2.length != G0.length) = false := by have := HP.out.1; simp; omega
          obtain ⟨u9, hu9⟩ : ∃ u, sumS N' + n = u := ⟨_, rfl⟩
          have dA : decide (r < u9) = false := by have hT := HS4.out.T; have := hT.fits; simp; omega
          have Hu9 := Lib.hid hu9
          clear hu9
          go_wp2_with fail
          refine (keys_st HS4.out hk1 G1 HG1.out).mono ?_
          rintro _ w5 ⟨a5, c5, rfl, O5, k5⟩
          have HS5 := Lib.hid (HS4.out.keep k5)
          have HO5 := Lib.hid O5
          have HO0 := Lib.hid (HO4.out.keep k5 (fun _ _ h => h))
          have HO2 := Lib.hid (HOG.out.keep k5 (fun _ _ h => h))
          clear O5 k5 HS4 HO4 HOG
          go_wp2_with (first
            | (go_at_call 20; refine (reserved_any cb mb r n N' _ HS5.out.T).mono ?_; rintro _ w5 ⟨rfl, rfl⟩)
            | (go_at_call 16; refine (used_st HS5.out u9 Hu9.out).mono ?_; rintro _ w7 ⟨rfl, S7, k7⟩))
          have HS7 := Lib.hid S7
          have HL := Lib.hid (HO5.out.keep k7 (fun _ _ h => h))
          have HK := Lib.hid (HO0.out.keep k7 (fun _ _ h => h))
          have HGo := Lib.hid (HO2.out.keep k7 (fun _ _ h => h))
          clear S7 k7 hln1 hln2 dA HO5 HO0 HO2 HS5
          go_wp2_with fail
          go_loopw [97] (fun i wr => ∃ m : Nat, m ≤ G1.length ∧ i = .int .i64 m ∧ Keep NoB w7 wr) (fun i _ => G1.length - (intOf i).toNat)
          case atStart => exact ⟨0, Nat.zero_le _, rfl, Keep.refl _ _⟩
          case round =>
            obtain ⟨m, hm, rfl, hkx⟩ := hrel
            by_cases hml : m < G1.length
            · obtain ⟨x, hx⟩ : ∃ x, G1[m]? = some x := ⟨_, List.getElem?_eq_getElem hml⟩
              have hx0 := HP.out.2.1 m x hx
              obtain ⟨g1, hv1, _, hl1, m1, _⟩ := (HL.out.keep hkx (fun _ _ h => h)).cell1 cS_len hx rfl
              obtain ⟨g0, hv0, _, hl0, m0, _⟩ := (HK.out.keep hkx (fun _ _ h => h)).cell1 cS_len hx0 rfl
              cases hv1
              cases hv0
              have hm0 : m < G0.length := (List.getElem?_eq_some_iff.1 hx0).1
              clear hx hx0
              go_wp2_with fail
              go_quiet (fail)
              go_wp2_with fail
              go_roundw
              case rel => exact ⟨m + 1, hml, by go_num, hkx.drewN _⟩
              case measure => simp [intOf]; omega
            · have HKX := Lib.hid hkx
              clear hkx hm
              go_wp2_with fail
              go_loopw [112] (fun i wy => ∃ m : Nat, m ≤ G2.length ∧ i = .int .i64 m ∧ Keep NoB wr wy) (fun i _ => G2.length - (intOf i).toNat)
              case atStart => exact ⟨0, Nat.zero_le _, rfl, Keep.refl _ _⟩
              case round =>
                obtain ⟨q, hq, rfl, hky⟩ := hrel
                by_cases hql : q < G2.length
                · obtain ⟨x, hx⟩ : ∃ x, G2[q]? = some x := ⟨_, List.getElem?_eq_getElem hql⟩
                  have hx0 := HP.out.2.2 q x hx
                  obtain ⟨g1, hv1, _, hl1, m1, _⟩ := (HGo.out.keep (HKX.out.trans hky) (fun _ _ h => h)).cell1 cS_len hx rfl
                  obtain ⟨g0, hv0, _, hl0, m0, _⟩ := (HK.out.keep (HKX.out.trans hky) (fun _ _ h => h)).cell1 cS_len hx0 rfl
                  cases hv1
                  cases hv0
                  have hm0 : G0.length - 1 - q < G0.length := (List.getElem?_eq_some_iff.1 hx0).1
                  have hgl : G0.length ≤ 100000 := by rw [← HG0.out]; simp; omega
                  have hq0 : q + 1 ≤ G0.length := by have := HP.out.1; omega
                  have e1 : IntKind.i64.wrap ((G0.length : Int) - 1) = (G0.length : Int) - 1 := IntWalk.i64_in _ (by omega)
                  have e2 : IntKind.i64.wrap ((G0.length : Int) - 1 - (q : Int)) = (G0.length : Int) - 1 - (q : Int) := IntWalk.i64_in _ (by omega)
                  have e3 : ((G0.length : Int) - 1 - (q : Int)).toNat = G0.length - 1 - q := by omega
                  have e4 : (0 : Int) ≤ (G0.length : Int) - 1 - (q : Int) := by omega
                  have e5 : (G0.length : Int) - 1 - (q : Int) < (G0.length : Int) := by omega
                  clear hx hx0 hm0 hgl hq0
                  go_wp2_with fail
                  go_quiet (fail)
                  clear e1 e2 e3 e4 e5
                  go_wp2_with fail
                  go_roundw
                  case rel => exact ⟨q + 1, hql, by go_num, hky.drewN _⟩
                  case measure => simp [intOf]; omega
                · obtain ⟨k', hk'⟩ : ∃ k', n - (if 0 < n then min n n else 0) = k' := ⟨_, rfl⟩
                  have hk0' : k' = 0 := by rw [← hk', Hkp.out]; (try simp only [if_true]); split <;> omega
                  have Hk' := Lib.hid hk'
                  have SZ := HS7.out.keep (HKX.out.trans hky)
                  subst hk0'
                  clear hk'
                  go_wp2_with fail
                  refine (rel_st SZ n 0 Hk'.out).mono ?_
                  rintro _ w8 ⟨rfl, S8, _⟩
                  have HS8 := Lib.hid S8
                  clear S8 SZ
                  go_wp2_with (first
                    | (go_at_call 20; refine (reserved_any cb mb r 0 N' _ HS8.out.T).mono ?_; rintro _ w8 ⟨rfl, rfl⟩)
                    | (go_at_call 14; refine (keys_st HS8.out hk1 G1 HG1.out).mono ?_; rintro _ w9 ⟨a9, c9, rfl, _, k9⟩))
                  go_ret
                  exact ⟨rfl, (HS8.out.hk.trans k9).below (fun _ _ h => h)⟩
        · have hno : (decide (0 ≤ n) = false ∧ n < 0) ∨ (decide (0 ≤ n) = true ∧ decide (n ≤ r) = false ∧ r < n) := by
            by_cases h0 : 0 ≤ n
            · right; simp; omega
            · left; simp; omega
          have hres : n < 0 ∨ r - 0 < n := by omega
          have Hres := Lib.hid hres
          clear hp hres
          rcases hno with ⟨d1, hn1⟩ | ⟨d1, d2, hn1⟩
          all_goals
            as_aux_lemma =>
            refine (resno_st HS3.out n Hres.out).mono ?_
            rintro _ w4 ⟨rfl, S4, o4⟩
            have HS4 := Lib.hid S4
            have HO4 := Lib.hid (HO3.out.oth o4 (by decide) (by decide))
            clear S4 o4 HO3 HS3
            go_wp2_with fail
            have hgg0 : G0.length ≤ 100000 := by rw [← HG0.out]; simp; omega
            obtain ⟨u9, hu9⟩ : ∃ u, sumS N + 0 = u := ⟨_, rfl⟩
            have dA : decide (r < u9) = false := by have hT := HS4.out.T; have := hT.fits; simp; omega
            have Hu9 := Lib.hid hu9
            clear hu9
            go_wp2_with fail
            refine (keys_st HS4.out hk1 G0 HG0.out).mono ?_
            rintro _ w5 ⟨a5, c5, rfl, O5, k5⟩
            have HS5 := Lib.hid (HS4.out.keep k5)
            have HO5 := Lib.hid O5
            have HO0 := Lib.hid (HO4.out.keep k5 (fun _ _ h => h))
            clear O5 k5 HS4 HO4
            go_wp2_with (first
              | (go_at_call 20; refine (reserved_any cb mb r 0 N _ HS5.out.T).mono ?_; rintro _ w5 ⟨rfl, rfl⟩)
              | (go_at_call 16; refine (used_st HS5.out u9 Hu9.out).mono ?_; rintro _ w7 ⟨rfl, S7, k7⟩))
            have HS7 := Lib.hid S7
            have HL := Lib.hid (HO5.out.keep k7 (fun _ _ h => h))
            have HK := Lib.hid (HO0.out.keep k7 (fun _ _ h => h))
            clear S7 k7 dA HO5 HO0 HS5
            go_wp2_with fail
            go_loopw [97] (fun i wr => ∃ m : Nat, m ≤ G0.length ∧ i = .int .i64 m ∧ Keep NoB w7 wr) (fun i _ => G0.length - (intOf i).toNat)
            case atStart => exact ⟨0, Nat.zero_le _, rfl, Keep.refl _ _⟩
            case round =>
              obtain ⟨m, hm, rfl, hkx⟩ := hrel
              by_cases hml : m < G0.length
              · obtain ⟨x, hx⟩ : ∃ x, G0[m]? = some x := ⟨_, List.getElem?_eq_getElem hml⟩
                have hx0 := hx
                obtain ⟨g1, hv1, _, hl1, m1, _⟩ := (HL.out.keep hkx (fun _ _ h => h)).cell1 cS_len hx rfl
                obtain ⟨g0, hv0, _, hl0, m0, _⟩ := (HK.out.keep hkx (fun _ _ h => h)).cell1 cS_len hx0 rfl
                cases hv1
                cases hv0
                have hm0 : m < G0.length := (List.getElem?_eq_some_iff.1 hx0).1
                clear hx hx0
                go_wp2_with fail
                go_quiet (fail)
                go_wp2_with fail
                go_roundw
                case rel => exact ⟨m + 1, hml, by go_num, hkx.drewN _⟩
                case measure => simp [intOf]; omega
              · have HKX := Lib.hid hkx
                clear hkx hm
                go_wp2_with fail
                go_loopw [112] (fun i wy => i = .int .i64 0 ∧ wy = wr) (fun _ _ => 0)
                case atStart => exact ⟨rfl, rfl⟩
                case round =>
                  obtain ⟨rfl, rfl⟩ := hrel
                  obtain ⟨k', hk'⟩ : ∃ k', 0 - (if 0 < n then min n 0 else 0) = k' := ⟨_, rfl⟩
                  have hk0' : k' = 0 := by rw [← hk']; split <;> omega
                  have Hk' := Lib.hid hk'
                  have SZ := HS7.out.keep HKX.out
                  subst hk0'
                  clear hk'
                  go_wp2_with fail
                  refine (rel_st SZ n 0 Hk'.out).mono ?_
                  rintro _ w8 ⟨rfl, S8, _⟩
                  have HS8 := Lib.hid S8
                  clear S8 SZ
                  go_wp2_with (first
                    | (go_at_call 20; refine (reserved_any cb mb r 0 N _ HS8.out.T).mono ?_; rintro _ w8 ⟨rfl, rfl⟩)
                    | (go_at_call 14; refine (keys_st HS8.out hk1 G0 HG0.out).mono ?_; rintro _ w9 ⟨a9, c9, rfl, _, k9⟩))
                  go_ret
                  exact ⟨rfl, (HS8.out.hk.trans k9).below (fun _ _ h => h)⟩
end Go.Proofs.Ytgbcjnejlelndaa
