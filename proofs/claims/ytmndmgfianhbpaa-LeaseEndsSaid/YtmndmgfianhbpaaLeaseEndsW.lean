/- The walk of LeaseEnds. -/
import Derived.Test.YtmndmgfianhbpaaLeaseBoundW
namespace Go.Proofs.Ytmndmgfianhbpaa
open Go Go.RowKit Go.Maps

def encB (x : Bool) : Value := .bool x
theorem zero4 (w : World) : (zeroValue 4).run Try.prog w = .ok (.bool false) w := by kernel_rfl

/-- The keys of the leases are those that are marked. -/
def Marks (L : LL) (H : List (Lit × Bool)) : Prop := L.length = H.length ∧ ∀ k, WideAt.IsKeyLit k → lget H k = if (lget L k).isSome then some true else none

/-- All leases have so many ticks. -/
def Exact (L : LL) (t : Int) : Prop := ∀ p ∈ L, p.2.2 = t

theorem marks_put {L : LL} {H : List (Lit × Bool)} (h : Marks L H) (haL : Apart L) (haH : Apart H) (k : Lit) (hk : WideAt.IsKeyLit k) (x : Int × Int) : Marks (lput L k x) (lput H k true) := by
  obtain ⟨h1, h2⟩ := h
  refine ⟨?_, fun k' hk' => ?_⟩
  · rw [length_lput haL, length_lput haH, h2 k hk, h1]
    cases (lget L k).isSome <;> simp
  · by_cases e : k' = k
    · subst e
      rw [lget_lput_same hk, lget_lput_same hk]
      rfl
    · rw [lget_lput_other e, lget_lput_other e, h2 k' hk']

theorem marks_again {L : LL} {H : List (Lit × Bool)} (h : Marks L H) (haH : Apart H) (k : Lit) (hk : WideAt.IsKeyLit k) (hs : (lget L k).isSome = true) : Marks L (lput H k true) := by
  obtain ⟨h1, h2⟩ := h
  refine ⟨?_, fun k' hk' => ?_⟩
  · rw [length_lput haH, h2 k hk, hs, h1]
    simp
  · by_cases e : k' = k
    · subst e
      rw [lget_lput_same hk, hs]
      rfl
    · rw [lget_lput_other e, h2 k' hk']

theorem tick_exact {L : LL} {t : Int} (h : Exact L t) (ht : 2 ≤ t) : Exact (tickL L) (t - 1) ∧ (tickL L).length = L.length := by
  have e : tickL L = L.map (fun p => (p.1, (p.2.1, p.2.2 - 1))) := by
    unfold tickL
    rw [← List.filterMap_eq_map]
    apply fm_congr
    intro p hp
    have := h p hp
    unfold tickP
    rw [if_neg (by omega)]
    rfl
  rw [e]
  refine ⟨fun p hp => ?_, by simp⟩
  obtain ⟨q, hq, rfl⟩ := List.mem_map.1 hp
  have := h q hq
  simp only
  omega

theorem tick_last {L : LL} {t : Int} (h : Exact L t) (ht : t ≤ 1) : tickL L = [] := by
  have := tick_lefts (L := L) (t := t)
  unfold tickL
  rw [List.filterMap_eq_nil_iff]
  intro p hp
  have := h p hp
  unfold tickP
  rw [if_pos (by omega)]

set_option maxRecDepth 100000 in
set_option maxHeartbeats 1000000 in
theorem ends_walk (x : Int) (a0 : Option Addr) (len0 cap0 : Nat) (z : Nat → ByteArray) (w : World) (h0 : IsStrs w a0 len0 z) (hx0 : 0 ≤ x) (hx1 : x ≤ 255) (hreach : len0 ≤ 140737488351232) :
    Calls Try.prog 6 #[.int .u8 x, .slice a0 len0 cap0] w fun e w' => e = .returned (.bool true) ∧ Below w.heap.size w w' := by
  obtain ⟨hmax, hok, hrow⟩ := h0
  unfold maxLen at hmax
  have hmm := @run_makeMap Try.prog
  have hy2 : 0 ≤ x % 40 := by omega
  have hy3 : x % 40 ≤ 39 := by omega
  obtain ⟨tt, htt⟩ : ∃ v, max (x % 40) 1 = v := ⟨_, rfl⟩
  have htt1 : 1 ≤ tt ∧ tt ≤ 39 := by omega
  obtain ⟨ht1, ht39⟩ := htt1
  have htt' : max 1 (x % 40) = tt := by omega
  have Htt := Lib.hid htt
  have Htt' := Lib.hid htt'
  clear htt htt'
  go_enter Try.func6, Try.ntmps6
  go_wp2_with fail
  refine (awake_any _).mono ?_
  rintro _ w1 ⟨rfl, hk1⟩
  go_wp2_with (refine wpList_max2 _ rfl _ _ _ _ rfl _ _ rfl rfl tt Htt'.out ?_)
  refine (new_any len0 (x % 40) tt _ Htt.out).mono ?_
  rintro _ w2 ⟨rfl, T2, hk2, hs2⟩
  have hlo : w.heap.size ≤ w1.heap.size := hk1.size
  have hk : Keep NoB w w2 := hk1.trans hk2
  have hs2' : w1.heap.size + 2 ≤ w2.heap.size := by omega
  generalize htb : w1.heap.size + 1 = tb at *
  generalize hmb : w1.heap.size = mb at *
  have hlo2 : w.heap.size ≤ tb := by omega
  have hbt : tb < w2.heap.size := by omega
  have hbm : mb < w2.heap.size := by omega
  clear hk1 hk2 hs2 hs2' htb hmb
  go_wp2_with fail
  have T3 : Tab (w2.alloc (.map #[] 0)) tb mb len0 tt 0 [] := T2.keep (S := NoB) (by (repeat (with_reducible first | exact Keep.refl _ _ | assumption | refine Keep.alloc ?_ _ | refine Keep.drewN ?_ _ | refine Keep.drew ?_ | refine Keep.setCell ?_ (by first | (left; simp; done) | (left; simp; omega) | (right; simp [NoB, OneB, TwoB]; done)) _))) (fun h => h) (fun h => h)
  have M3 : MapAt Try.prog 9 encB (w2.alloc (.map #[] 0)) w2.heap.size [] := MapAt.made w2
  have K3 : Keep NoB w (w2.alloc (.map #[] 0)) := hk.alloc _
  have hw2 : w.heap.size ≤ w2.heap.size := hk.size
  generalize hhb : w2.heap.size = hb at *
  generalize hW3 : World.alloc _ _ = W3 at *
  clear T2 hk hhb hW3
  have hne1 : hb ≠ tb := by omega
  have hne2 : hb ≠ mb := by omega
  go_loopw [27] (fun i wr => ∃ (k : Nat) (L : LL) (Hd : List (Lit × Bool)) (last : Int), k ≤ len0 ∧ i = .int .i64 k ∧ L.length ≤ k ∧ 0 ≤ last ∧ last ≤ k ∧ Tab wr tb mb len0 tt last L ∧ MapAt Try.prog 9 encB wr hb Hd ∧ Marks L Hd ∧ Exact L tt ∧ Keep NoB w wr) (fun i _ => len0 - (intOf i).toNat)
  case atStart => exact ⟨0, [], [], 0, Nat.zero_le _, rfl, Nat.le_refl _, by omega, by simp, T3, M3, ⟨rfl, fun k _ => rfl⟩, by intro p hp; simp at hp, K3⟩
  case round =>
    obtain ⟨k, L, Hd, last, hk0, rfl, hL, hla0, hlak, T, M, hMk, hEx, hk⟩ := hrel
    by_cases hlt : k < len0
    · rcases hrow with h | ⟨b, off, rfl, hb', hc⟩
      · omega
      have hcw := hc k hlt
      have hs := hok k hlt
      clear hc
      generalize z k = s at hcw hs
      have hb0 : b < wr.heap.size := Nat.lt_of_lt_of_le hb' hk.size
      have l0 : wr.cell? ⟨b, off + k, none⟩ = some (.string s) := (hk.cell (p := ⟨b, off + k, none⟩) hb' (fun h => h)).trans hcw
      have Hcw := Lib.hid hcw
      clear hcw
      have hkey := WideMaps.keyOf_string_mk Try.underlying9 hs
      have hapL := T.map.apart law9
      have hapH := M.apart law9
      have hMk2 := hMk.2 (kS s) (kS_key s)
      have hlim : ¬ ((len0 : Int) ≤ (L.length : Int)) := by omega
      have hHn : Hd.length < maxLen := by rw [← hMk.1]; unfold maxLen; omega
      cases hg : lget L (kS s) with
      | some y =>
        rw [hg] at hMk2
        have hMk' := marks_again hMk hapH (kS s) (kS_key s) (by rw [hg]; rfl)
        have hr : grantR len0 tt last L (kS s) = (0, false, last, L) := by unfold grantR; rw [if_neg hlim, hg]
        have hv : ((lget Hd (kS s)).map encB).getD (.bool false) = .bool true := by rw [hMk2]; rfl
        have Hr := Lib.hid hr
        have Hv := Lib.hid hv
        clear hr hv hMk2 hg hMk
        go_wp2_with fail
        refine (grant_any tb mb len0 tt last L s _ T hs (by unfold maxLen; omega) hla0 (by omega) 0 false last L Hr.out).mono ?_
        rintro _ w3 ⟨rfl, T3, hk3⟩
        have hK3 : Keep NoB w w3 := hk.trans' hk3 (fun i hi e => by rcases e with e | e <;> omega)
        have hM3 := M.keep hk3 (fun e => by rcases e with e | e <;> omega)
        have l3 : w3.cell? ⟨b, off + k, none⟩ = some (.string s) := (hK3.cell (p := ⟨b, off + k, none⟩) hb' (fun h => h)).trans Hcw.out
        go_wp2_with (first
          | (at_lookup; refine wpList_look _ rfl _ _ 38 rfl 9 4 law9 Try.underlying38 encB (zero4 _) hb Hd rfl hM3 _ _ rfl hkey (.bool true) Hv.out ?_)
          | (at_mapUpdate; refine wpList_mstore _ rfl _ _ _ 38 rfl 9 4 law9 Try.underlying38 encB hb Hd rfl hM3 hHn _ _ true rfl rfl hkey ?_; intro w4 hM4 ht4; try go_frame))
        go_roundw
        case rel =>
          have k4 : Keep (OneB hb) w3 w4 := Keep.of_turned ht4 rfl
          exact ⟨k + 1, L, _, last, hlt, by go_num, by omega, hla0, by simp; omega, T3.keep k4 (fun e => hne1 e.symm) (fun e => hne2 e.symm), hM4, hMk', hEx, hK3.trans' k4 (fun i hi e => by have : i = hb := e; omega)⟩
        case measure => simp [intOf]; omega
      | none =>
        rw [hg] at hMk2
        have hMk' := marks_put hMk hapL hapH (kS s) (kS_key s) (last + 1, tt)
        have hEx' : Exact (lput L (kS s) (last + 1, tt)) tt := by
          intro p hp
          rcases mem_lput hp with rfl | hp
          · rfl
          · exact hEx p hp
        have hLl : (lput L (kS s) (last + 1, tt)).length ≤ L.length + 1 := by rw [length_lput hapL]; split <;> omega
        have hr : grantR len0 tt last L (kS s) = (last + 1, true, last + 1, lput L (kS s) (last + 1, tt)) := by unfold grantR; rw [if_neg hlim, hg]
        have hv : ((lget Hd (kS s)).map encB).getD (.bool false) = .bool false := by rw [hMk2]; rfl
        have Hr := Lib.hid hr
        have Hv := Lib.hid hv
        clear hr hv hMk2 hg hMk
        go_wp2_with fail
        refine (grant_any tb mb len0 tt last L s _ T hs (by unfold maxLen; omega) hla0 (by omega) (last + 1) true (last + 1) (lput L (kS s) (last + 1, tt)) Hr.out).mono ?_
        rintro _ w3 ⟨rfl, T3, hk3⟩
        have hK3 : Keep NoB w w3 := hk.trans' hk3 (fun i hi e => by rcases e with e | e <;> omega)
        have hM3 := M.keep hk3 (fun e => by rcases e with e | e <;> omega)
        have l3 : w3.cell? ⟨b, off + k, none⟩ = some (.string s) := (hK3.cell (p := ⟨b, off + k, none⟩) hb' (fun h => h)).trans Hcw.out
        go_wp2_with (first
          | (at_lookup; refine wpList_look _ rfl _ _ 38 rfl 9 4 law9 Try.underlying38 encB (zero4 _) hb Hd rfl hM3 _ _ rfl hkey (.bool false) Hv.out ?_)
          | (at_mapUpdate; refine wpList_mstore _ rfl _ _ _ 38 rfl 9 4 law9 Try.underlying38 encB hb Hd rfl hM3 hHn _ _ true rfl rfl hkey ?_; intro w4 hM4 ht4; try go_frame))
        go_roundw
        case rel =>
          have k4 : Keep (OneB hb) w3 w4 := Keep.of_turned ht4 rfl
          exact ⟨k + 1, _, _, last + 1, hlt, by go_num, by omega, by omega, by simp; omega, T3.keep k4 (fun e => hne1 e.symm) (fun e => hne2 e.symm), hM4, hMk', hEx', hK3.trans' k4 (fun i hi e => by have : i = hb := e; omega)⟩
        case measure => simp [intOf]; omega
    · have hlt' : decide ((k : Int) < (len0 : Int)) = false := by simp; omega
      have hln := hMk.1
      have hlm := M.len Try.underlying38
      go_wp2_with fail
      clear hlt' hlt
      go_loopw [11] (fun i wr => ∃ (j : Nat) (L : LL), (j : Int) ≤ tt ∧ i = .int .i64 j ∧ L.length ≤ len0 ∧ Tab wr tb mb len0 tt last L ∧ MapAt Try.prog 9 encB wr hb Hd ∧ ((j : Int) < tt → L.length = Hd.length ∧ Exact L (tt - j)) ∧ ((j : Int) = tt → L = []) ∧ Keep NoB w wr) (fun i _ => tt.toNat - (intOf i).toNat)
      case atStart => exact ⟨0, L, by simp; omega, rfl, by omega, T, M, fun _ => ⟨hMk.1, by simpa using hEx⟩, fun h => by simp at h; omega, hk⟩
      case round =>
        obtain ⟨j, L1, hj, rfl, hL1, T1, M1, hE1, hE2, hk1⟩ := hrel
        by_cases hjt : (j : Int) < tt
        · obtain ⟨hlen, hex⟩ := hE1 hjt
          clear hE1 hE2
          have hlenI : (L1.length : Int) = (Hd.length : Int) := by omega
          have Hle := Lib.hid hlenI
          clear hlen hlenI hlm hln
          go_wp2_with fail
          refine (len_any tb mb len0 tt last L1 _ T1).mono ?_
          rw [Hle.out]
          rintro _ _ ⟨rfl, rfl⟩
          have hlm1 := fun ty => M1.len Try.underlying38 ty
          go_wp2_with fail
          refine (tick_any tb mb len0 tt last L1 _ T1 (by unfold maxLen; have := Hle.out; omega) (fun p hp => by have := hex p hp; omega)).mono ?_
          rintro _ w4 ⟨rfl, T4, hk4⟩
          have K4 : Keep NoB w w4 := hk1.trans' hk4 (fun i hi e => by rcases e with e | e <;> omega)
          have M4 := M1.keep hk4 (fun e => by rcases e with e | e <;> omega)
          clear hlm1
          go_wp2_with fail
          go_roundw
          case rel =>
            refine ⟨j + 1, tickL L1, by simp; omega, by go_num, by have := tick_len L1; omega, T4, M4, fun h => ?_, fun h => ?_, K4⟩
            · have h1 := tick_exact hex (by simp at h; omega)
              refine ⟨?_, ?_⟩
              · rw [h1.2]; have := Hle.out; omega
              · have e : tt - ((j + 1 : Nat) : Int) = tt - (j : Int) - 1 := by simp; omega
                rw [e]; exact h1.1
            · exact tick_last hex (by simp at h; omega)
          case measure => simp [intOf]; omega
        · obtain rfl := hE2 (by omega)
          have hjt' : decide ((j : Int) < tt) = false := by simp; omega
          clear hE1 hE2 hlm hln
          go_wp2_with fail
          refine (len_any tb mb len0 tt last [] _ T1).mono ?_
          rintro _ _ ⟨rfl, rfl⟩
          go_wp2
          go_ret
          exact ⟨rfl, hk1.below (fun _ _ h => h)⟩
end Go.Proofs.Ytmndmgfianhbpaa
