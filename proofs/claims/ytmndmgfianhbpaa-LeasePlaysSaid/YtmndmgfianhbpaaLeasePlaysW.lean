/- The walk of LeasePlays. -/
import Derived.Test.YtmndmgfianhbpaaLeaseG
import Derived.Test.YtmndmgfianhbpaaLeaseQ
import Derived.Test.YtmndmgfianhbpaaLeaseZ
import Derived.Test.YtmndmgfianhbpaaLeaseT
import Derived.Test.YtmndmgfianhbpaaLeaseBoundW
import Derived.Deep.Cut
import Derived.Deep.CutRange
import Derived.Deep.CutBlock
import Derived.OpenShut
namespace Go.Proofs.Ytmndmgfianhbpaa
open Go Go.RowKit Go.Maps

/-- An op of the laws: its number, its key, its token. -/
abbrev LOp := Int × ByteArray × Int
def lopCells (x : LOp) : List Value := [.int .i64 x.1, .string x.2.1, .int .i64 x.2.2]
def lopOk (x : LOp) : Prop := (Lit.int .i64 x.1).wf = true ∧ x.2.1.size ≤ maxLen ∧ (Lit.int .i64 x.2.2).wf = true

/-- What the walk is told of a slice of ops. -/
def IsLOps (w : World) (a : Option Addr) (len : Nat) (z : Nat → LOp) : Prop :=
  len ≤ maxLen ∧ (∀ i, i < len → lopOk (z i)) ∧
    (len = 0 ∨ ∃ b off, a = some ⟨b, off, none⟩ ∧ b < w.heap.size ∧ ∀ i, i < len → w.cell? ⟨b, off + i * 3, none⟩ = some (.int .i64 (z i).1) ∧ w.cell? ⟨b, off + i * 3 + 1, none⟩ = some (.string (z i).2.1) ∧ w.cell? ⟨b, off + i * 3 + 2, none⟩ = some (.int .i64 (z i).2.2))

/-- Both tables, and how they hang together: D: how much longer the leases of the one live. -/
structure Both (w : World) (B tb mb rb : Nat) (limit T T' D : Int) (k : Nat) : Prop where
  ex : ∃ (L : LL) (last : Int) (N : List RL) (now : Int) (a : Option Addr) (cap : Nat), Tab w tb mb limit T last L ∧ RTab w B rb a cap limit T' now last N ∧ Sim D now L N ∧ 0 ≤ last ∧ last ≤ k ∧ 0 ≤ now ∧ now ≤ k ∧ L.length ≤ k ∧ ∀ x ∈ N, now < x.2.2 ∧ x.2.2 ≤ now + T' ∧ T' ≤ x.2.2

theorem Both.mono {w : World} {B tb mb rb : Nat} {limit T T' D : Int} {k j : Nat} (h : Both w B tb mb rb limit T T' D k) (hj : k ≤ j) : Both w B tb mb rb limit T T' D j := by
  obtain ⟨L, last, N, now, a, cap, h1, h2, h3, h4, h5, h6, h7, h8, h9⟩ := h.ex
  exact ⟨⟨L, last, N, now, a, cap, h1, h2, h3, h4, by omega, h6, by omega, by omega, h9⟩⟩
theorem Both.keep {w w' : World} {B tb mb rb : Nat} {limit T T' D : Int} {k : Nat} (h : Both w B tb mb rb limit T T' D k) (hk : Keep NoB w w') : Both w' B tb mb rb limit T T' D k := by
  obtain ⟨L, last, N, now, a, cap, h1, h2, h3, h4⟩ := h.ex
  exact ⟨⟨L, last, N, now, a, cap, h1.keep hk (fun h => h) (fun h => h), h2.keep hk (fun h => h) (fun _ _ h => h), h3, h4⟩⟩

/-- The two tables' blocks are not one another's. -/
theorem apartTR {w : World} {B tb mb rb : Nat} {limit T last : Int} {L : LL} {a : Option Addr} {cap : Nat} {limit' T' now last' : Int} {N : List RL} (h1 : Tab w tb mb limit T last L) (h2 : RTab w B rb a cap limit' T' now last' N) :
    tb ≠ rb ∧ mb ≠ rb ∧ ∀ g, (Value.slice a N.length cap).ownBlock = some g → g ≠ tb ∧ g ≠ mb := by
  refine ⟨?_, ?_, fun g hg => ⟨h2.own.ne h1.blk (by decide) g hg, h2.own.ne_map h1.map g hg⟩⟩
  · intro e
    have := h1.blk
    rw [e, h2.blk] at this
    cases this
  · intro e
    obtain ⟨es, clock, hb, _⟩ := h1.map
    rw [e, h2.blk] at hb
    cases hb



set_option maxRecDepth 100000 in
set_option maxHeartbeats 20000000 in
theorem plays_walk (limit ticks : Int) (a0 : Option Addr) (len0 cap0 : Nat) (z : Nat → LOp) (w : World) (h0 : IsLOps w a0 len0 z) (ht : (Lit.int .i64 ticks).wf = true) :
    Calls Try.prog 8 #[.int .i64 limit, .int .i64 ticks, .slice a0 len0 cap0] w fun e w' => e = .returned (.bool true) ∧ Below w.heap.size w w' := by
  obtain ⟨hmax, hok, hrow⟩ := h0
  unfold maxLen at hmax
  have htb := bounds_i64 ht
  obtain ⟨T, hT⟩ : ∃ T, max ticks 1 = T := ⟨_, rfl⟩
  obtain ⟨M1, hM1⟩ : ∃ T, min ticks 1000000 = T := ⟨_, rfl⟩
  obtain ⟨T', hT'⟩ : ∃ T, max M1 1 = T := ⟨_, rfl⟩
  have hTT : 1 ≤ T' ∧ T' ≤ T ∧ T ≤ 9223372036854775807 ∧ (T = T' ∨ T' = 1000000) ∧ T' ≤ 1000000 := by omega
  obtain ⟨hT1, hT2, hT3, hT4, hT5⟩ := hTT
  obtain ⟨D, hD⟩ : ∃ D, T - T' = D := ⟨_, rfl⟩
  have HT := Lib.hid hT
  have HM1 := Lib.hid hM1
  have HT' := Lib.hid hT'
  have HD := Lib.hid hD
  clear hT hM1 hT' hD htb ht
  go_enter Try.func8, Try.ntmps8
  go_wp2_with fail
  refine (awake_any _).mono ?_
  rintro _ w1 ⟨rfl, hk1⟩
  go_wp2_with fail
  refine (new_any limit ticks T _ HT.out).mono ?_
  rintro _ w2 ⟨rfl, T2, hk2, hs2⟩
  have hlo : w.heap.size ≤ w1.heap.size := hk1.size
  have hk : Keep NoB w w2 := hk1.trans hk2
  generalize htb : w1.heap.size + 1 = tb at *
  generalize hmb : w1.heap.size = mb at *
  have hlo2 : w.heap.size ≤ tb := by omega
  clear hk1 hk2 hs2 htb hmb
  go_wp2_with (first
    | (refine wpList_min2 _ rfl _ _ _ _ rfl _ _ rfl rfl M1 HM1.out ?_)
    | (refine wpList_max2 _ rfl _ _ _ _ rfl _ _ rfl rfl T' HT'.out ?_))
  have R3 : RTab (w2.alloc (.cells #[.slice none 0 0, .int .i64 limit, .int .i64 T', .int .i64 0, .int .i64 0] 49)) w.heap.size w2.heap.size none 0 limit T' 0 0 [] := ⟨blk_new w2 _, Own.nil _ _ _ _ _⟩
  have T3 := T2.keep ((Keep.refl NoB w2).alloc (.cells #[.slice none 0 0, .int .i64 limit, .int .i64 T', .int .i64 0, .int .i64 0] 49)) (fun h => h) (fun h => h)
  have K3 := hk.alloc (.cells #[.slice none 0 0, .int .i64 limit, .int .i64 T', .int .i64 0, .int .i64 0] 49)
  have hlo3 : w.heap.size ≤ w2.heap.size := hk.size
  generalize World.alloc w2 (.cells #[.slice none 0 0, .int .i64 limit, .int .i64 T', .int .i64 0, .int .i64 0] 49) = w3 at R3 T3 K3 ⊢
  generalize w2.heap.size = rb at R3 hlo3 ⊢
  have B3 : Both w3 w.heap.size tb mb rb limit T T' D 0 := ⟨⟨[], 0, [], 0, none, 0, T3, R3, List.Perm.refl _, by omega, by omega, by omega, by omega, by simp, by simp⟩⟩
  clear T2 hk R3 T3
  go_loopw [10] (fun i wr => ∃ k : Nat, k ≤ len0 ∧ k ≤ 300 ∧ i = .int .i64 k ∧ Both wr w.heap.size tb mb rb limit T T' D k ∧ Keep NoB w wr) (fun i _ => len0 - (intOf i).toNat)
  case atStart => exact ⟨0, Nat.zero_le _, Nat.zero_le _, rfl, B3, K3⟩
  case round =>
    clear B3 K3
    obtain ⟨k, hk0, hk100, rfl, hB, hk⟩ := hrel
    by_cases hgo : k < len0 ∧ k < 300
    · obtain ⟨hlt, h200⟩ := hgo
      have h200i : decide ((k : Int) < 300) = true := by simp; omega
      rcases hrow with h | ⟨b, off, rfl, hb, hc⟩
      · omega
      have hcw := hc k hlt
      have hop := hok k hlt
      clear hc
      generalize hzk : z k = x at hcw hop
      clear hzk
      obtain ⟨kd, s, n⟩ := x
      obtain ⟨hcw0, hcw1, hcw2⟩ := hcw
      have hs : s.size ≤ maxLen := hop.2.1
      simp only at hcw0 hcw1 hcw2
      have hb0 : b < wr.heap.size := Nat.lt_of_lt_of_le hb hk.size
      have l00 : wr.cell? ⟨b, off + k * 3, none⟩ = some (.int .i64 kd) := (hk.cell (p := ⟨b, off + k * 3, none⟩) hb (fun h => h)).trans hcw0
      have l01 : wr.cell? ⟨b, off + k * 3 + 1, none⟩ = some (.string s) := (hk.cell (p := ⟨b, off + k * 3 + 1, none⟩) hb (fun h => h)).trans hcw1
      have l02 : wr.cell? ⟨b, off + k * 3 + 2, none⟩ = some (.int .i64 n) := (hk.cell (p := ⟨b, off + k * 3 + 2, none⟩) hb (fun h => h)).trans hcw2
      clear hcw0 hcw1 hcw2
      have hkd : kd = 0 ∨ kd = 1 ∨ kd = 2 ∨ kd = 3 ∨ kd = 4 ∨ ((kd == 0) = false ∧ (kd == 1) = false ∧ (kd == 2) = false ∧ (kd == 3) = false ∧ (kd == 4) = false) := by
        simp; omega
      go_upto_block 2 with fail
      go_cut [12, 13, 14, 15, 16, 17] from 29 to 161 (fun ok _ _ _ _ _ wx => ok = .bool true ∧ Both wx w.heap.size tb mb rb limit T T' D (k + 1) ∧ Keep NoB w wx)
      case first =>
        have hBV := hB.keep ((Keep.refl NoB wr).alloc (.cells #[.int .i64 kd, .string s, .int .i64 n] 44))
        have hkV := hk.alloc (.cells #[.int .i64 kd, .string s, .int .i64 n] 44)
        have hbV := blk_new wr (.cells #[.int .i64 kd, .string s, .int .i64 n] 44)
        generalize World.alloc wr (.cells #[.int .i64 kd, .string s, .int .i64 n] 44) = V at hBV hkV hbV ⊢
        generalize hobE : wr.heap.size = ob at hbV ⊢
        have HobE := Lib.hid hobE
        clear hobE
        have v0 := blk_cell hbV 0
        have v1 := blk_cell hbV 1
        have v2 := blk_cell hbV 2
        have v3 := blk_lt hbV
        have HbV := Lib.hid hbV
        simp at v0 v1 v2
        clear hbV l00 l01 l02 hb0 hB hk
        obtain ⟨L, last, N, now, a, cap, T4, R4, hsim, hl0, hl1, hn0, hn1, hL, hall⟩ := hBV.ex
        have hsz : w.heap.size ≤ V.heap.size := hkV.size
        have hapart := T4.map.apart law9
        have hNl := sim_len hsim
        have hget := sim_get hsim hapart s
        obtain ⟨hx1, hx2, hx3⟩ := apartTR T4 R4
        have hob1 : ob ≠ tb := by intro e; have h1 := T4.blk; rw [← e, HbV.out] at h1; cases h1
        have hob2 : ob ≠ mb := by intro e; obtain ⟨es, clock, h1, _⟩ := T4.map; rw [← e, HbV.out] at h1; cases h1
        have hob3 : ob ≠ rb := by intro e; have h1 := R4.blk; rw [← e, HbV.out] at h1; cases h1
        have hob4 := Lib.hid (R4.own.ne HbV.out (by decide))
        rcases hkd with rfl | rfl | rfl | rfl | rfl | ⟨e0, e1, e2, e3, e4⟩
        · by_cases hfull : limit ≤ (L.length : Int)
          · have hg : grantR limit T last L (kS s) = (0, false, last, L) := by unfold grantR; rw [if_pos hfull]
            have hfull2 : limit ≤ (N.length : Int) := by rw [← hNl]; exact hfull
            have HG := Lib.hid hg
            have HX := Lib.hid hx3
            have HS := Lib.hid hsim
            have HA := Lib.hid hall
            clear hg hsim hall hget hx3
            go_wp2_with fail
            refine (grant_any tb mb limit T last L s _ T4 hs (by unfold maxLen; omega) hl0 (by omega) _ _ _ _ HG.out).mono ?_
            rintro _ w5 ⟨rfl, T5, hk5⟩
            have R5 := R4.keep hk5 (fun e => by rcases e with e | e; exact hx1 e.symm; exact hx2 e.symm) (fun g hg e => by rcases e with e | e; exact (HX.out g hg).1 e; exact (HX.out g hg).2 e)
            have s5 : w.heap.size ≤ w5.heap.size := Nat.le_trans hsz hk5.size
            have hb5 := blk_keep HbV.out hk5 (fun e => by rcases e with e | e; exact hob1 e; exact hob2 e)
            have y1 := blk_cell hb5 1
            have y3 := blk_lt hb5
            have Hb5 := Lib.hid hb5
            simp at y1
            clear hb5
            go_wp2_with fail
            refine (rgrant_full rb w.heap.size a cap limit T' now last N s _ R5 hfull2).mono ?_
            rintro _ w6 ⟨rfl, ⟨a6, q6, R6⟩, hk6⟩
            have hb6 := blk_keep Hb5.out hk6 (fun e => hob3 e)
            have T6 := T5.keep hk6 (fun e => hx1 e) (fun e => hx2 e)
            have z1 := blk_cell hb6 1
            have z3 := blk_lt hb6
            simp at z1
            clear hb6
            go_wp2_with fail
            refine (grant_nil s _).mono ?_
            rintro _ w7 ⟨rfl, hk7⟩
            go_wp2_with fail
            have hobF := HobE.out
            subst hobF
            go_meet
            exact ⟨rfl, Both.keep ⟨⟨L, last, N, now, a6, q6, T6, R6, HS.out, hl0, by omega, hn0, by omega, by omega, HA.out⟩⟩ hk7, ((hkV.trans' hk5 (fun i hi e => by rcases e with e | e <;> omega)).trans' hk6 (fun i hi e => by have e2 : i = rb := e; omega)).trans hk7⟩
          · have hfull2 : ¬ limit ≤ (N.length : Int) := by rw [← hNl]; exact hfull
            cases hf : N.find? (rhas s) with
            | some x =>
              have hgl : lget L (kS s) = some (x.2.1, x.2.2 - now + D) := by rw [hget, hf]; rfl
              have hg : grantR limit T last L (kS s) = (0, false, last, L) := by unfold grantR; rw [if_neg hfull, hgl]
              have HG := Lib.hid hg
              have HX := Lib.hid hx3
              have HS := Lib.hid hsim
              have HA := Lib.hid hall
              clear hg hsim hall hget hx3
              go_wp2_with fail
              refine (grant_any tb mb limit T last L s _ T4 hs (by unfold maxLen; omega) hl0 (by omega) _ _ _ _ HG.out).mono ?_
              rintro _ w5 ⟨rfl, T5, hk5⟩
              have R5 := R4.keep hk5 (fun e => by rcases e with e | e; exact hx1 e.symm; exact hx2 e.symm) (fun g hg e => by rcases e with e | e; exact (HX.out g hg).1 e; exact (HX.out g hg).2 e)
              have s5 : w.heap.size ≤ w5.heap.size := Nat.le_trans hsz hk5.size
              have hb5 := blk_keep HbV.out hk5 (fun e => by rcases e with e | e; exact hob1 e; exact hob2 e)
              have y1 := blk_cell hb5 1
              have y3 := blk_lt hb5
              have Hb5 := Lib.hid hb5
              simp at y1
              clear hb5
              go_wp2_with fail
              refine (rgrant_there rb w.heap.size a cap limit T' now last N s _ R5 (by omega) (by omega) x hf).mono ?_
              rintro _ w6 ⟨rfl, ⟨a6, q6, R6⟩, hk6⟩
              have hb6 := blk_keep Hb5.out hk6 (fun e => hob3 e)
              have T6 := T5.keep hk6 (fun e => hx1 e) (fun e => hx2 e)
              have z1 := blk_cell hb6 1
              have z3 := blk_lt hb6
              simp at z1
              clear hb6
              go_wp2_with fail
              refine (grant_nil s _).mono ?_
              rintro _ w7 ⟨rfl, hk7⟩
              go_wp2_with fail
              have hobF := HobE.out
              subst hobF
              go_meet
              exact ⟨rfl, Both.keep ⟨⟨L, last, N, now, a6, q6, T6, R6, HS.out, hl0, by omega, hn0, by omega, by omega, HA.out⟩⟩ hk7, ((hkV.trans' hk5 (fun i hi e => by rcases e with e | e <;> omega)).trans' hk6 (fun i hi e => by have e2 : i = rb := e; omega)).trans hk7⟩
            | none =>
              have hgl : lget L (kS s) = none := by rw [hget, hf]; rfl
              have hg : grantR limit T last L (kS s) = (last + 1, true, last + 1, lput L (kS s) (last + 1, T)) := by unfold grantR; rw [if_neg hfull, hgl]
              have hsim' := sim_grant hsim s (last + 1) (now + T') hgl T (by have := HD.out; omega)
              have hall' : ∀ x ∈ N ++ [(s, last + 1, now + T')], now < x.2.2 ∧ x.2.2 ≤ now + T' ∧ T' ≤ x.2.2 := by
                intro x hx
                rcases List.mem_append.1 hx with hx | hx
                · exact hall x hx
                · simp at hx; subst hx; simp; omega
              obtain ⟨N', hN'⟩ : ∃ l, N ++ [(s, last + 1, now + T')] = l := ⟨_, rfl⟩
              rw [hN'] at hsim' hall'
              have hlen' := sim_len hsim'
              have hNl' : N'.length = N.length + 1 := by rw [← hN']; simp
              have HG := Lib.hid hg
              have HF := Lib.hid hf
              have HN' := Lib.hid hN'
              have HS := Lib.hid hsim'
              have HA := Lib.hid hall'
              have HX := Lib.hid hx3
              have HLn := Lib.hid hlen'
              have hpos : decide (0 < last + 1) = true := by simp; omega
              clear hg hgl hf hN' hsim hall hget hsim' hall' hx3 hlen'
              generalize lput L (kS s) (last + 1, T) = L' at HG HS HLn
              go_wp2_with fail
              refine (grant_any tb mb limit T last L s _ T4 hs (by unfold maxLen; omega) hl0 (by omega) _ _ _ _ HG.out).mono ?_
              rintro _ w5 ⟨rfl, T5, hk5⟩
              have R5 := R4.keep hk5 (fun e => by rcases e with e | e; exact hx1 e.symm; exact hx2 e.symm) (fun g hg e => by rcases e with e | e; exact (HX.out g hg).1 e; exact (HX.out g hg).2 e)
              have s5 : w.heap.size ≤ w5.heap.size := Nat.le_trans hsz hk5.size
              have hb5 := blk_keep HbV.out hk5 (fun e => by rcases e with e | e; exact hob1 e; exact hob2 e)
              have y1 := blk_cell hb5 1
              have y3 := blk_lt hb5
              have Hb5 := Lib.hid hb5
              simp at y1
              clear hb5
              go_wp2_with fail
              refine (rgrant_new rb w.heap.size a cap limit T' now last N s _ R5 s5 (by omega) (by omega) HF.out ⟨by omega, by omega⟩ ⟨hn0, by omega⟩ ⟨hl0, by omega⟩ N' HN'.out).mono ?_
              rintro _ w6 ⟨rfl, ⟨a6, q6, R6⟩, hk6⟩
              have hb6 := blk_keep Hb5.out hk6 (fun e => by rcases e with e | e; exact hob3 e; exact hob4.out _ e rfl)
              have T6 := T5.keep hk6 (fun e => by rcases e with e | e; exact hx1 e; exact (HX.out _ e).1 rfl) (fun e => by rcases e with e | e; exact hx2 e; exact (HX.out _ e).2 rfl)
              have z1 := blk_cell hb6 1
              have z3 := blk_lt hb6
              simp at z1
              clear hb6
              go_wp2_with fail
              refine (grant_nil s _).mono ?_
              rintro _ w7 ⟨rfl, hk7⟩
              go_wp2_with fail
              have hobF := HobE.out
              subst hobF
              go_meet
              exact ⟨rfl, Both.keep ⟨⟨L', last + 1, N', now, a6, q6, T6, R6, HS.out, by omega, by omega, hn0, by omega, by have := HLn.out; omega, HA.out⟩⟩ hk7, ((hkV.trans' hk5 (fun i hi e => by rcases e with e | e <;> omega)).trans' hk6 (fun i hi e => by rcases e with e | e; omega; have := R4.own.fresh i e; omega)).trans hk7⟩
        · obtain ⟨v, hv⟩ : ∃ v, useB L (kS s) n = v := ⟨_, rfl⟩
          have hv2 : ruseB N s n = v := by
            rw [← hv]; unfold useB ruseB; rw [hget]
            cases N.find? (rhas s) <;> rfl
          obtain ⟨L', hL'⟩ : ∃ l, useL L (kS s) n = l := ⟨_, rfl⟩
          obtain ⟨N', hN'⟩ : ∃ l, (if v then N.eraseP (rhas s) else N) = l := ⟨_, rfl⟩
          have hsim' : Sim D now L' N' := by
            rw [← hL', ← hN', ← hv]
            unfold useL
            split
            · exact sim_drop hsim hapart s
            · exact hsim
          have hall' : ∀ x ∈ N', now < x.2.2 ∧ x.2.2 ≤ now + T' ∧ T' ≤ x.2.2 := by
            rw [← hN']
            split
            · intro x hx; exact hall x (List.mem_of_mem_eraseP hx)
            · exact hall
          have hlen' : L'.length ≤ k := by
            rw [← hL']
            unfold useL
            split
            · exact Nat.le_trans (List.length_filter_le _ _) hL
            · exact hL
          have HS := Lib.hid hsim'
          have HA := Lib.hid hall'
          have HV := Lib.hid hv
          have HV2 := Lib.hid hv2
          have HL' := Lib.hid hL'
          have HN' := Lib.hid hN'
          have HG := Lib.hid hget
          have HX := Lib.hid hx3
          clear hsim hall hget hsim' hall' hv hv2 hL' hN' hx3
          cases v
          all_goals
            go_wp2_with fail
            go_region_held3 (fun w' => w'.cell? ⟨ob, 1, none⟩ = some (.string s) ∧ w'.cell? ⟨ob, 2, none⟩ = some (.int .i64 n)) (first | go_keep | exact ⟨v1, v2⟩ | exact ⟨z1, z2⟩ | exact ⟨y1, y2⟩)
              (first
                | (go_at_call 13; with_reducible refine (use_nil s n _).mono ?_; rintro _ _ ⟨rfl, rfl⟩)
                | (go_at_call 13; refine (use_any tb mb limit T last L s n _ (T4.keep ((Keep.refl NoB V).drew) (fun h => h) (fun h => h)) hs _ HV.out L' HL'.out).mono ?_; rintro _ w5 ⟨rfl, T5, hk5⟩
                   have hb5 := blk_keep (blk_drew HbV.out) hk5 (fun e => by rcases e with e | e; exact hob1 e; exact hob2 e)
                   have R5 := (R4.keep ((Keep.refl NoB V).drew) (fun h => h) (fun _ _ h => h)).keep hk5 (fun e => by rcases e with e | e; exact hx1 e.symm; exact hx2 e.symm) (fun g hg e => by rcases e with e | e; exact (HX.out g hg).1 e; exact (HX.out g hg).2 e)
                   have y1 := blk_cell hb5 1
                   have y2 := blk_cell hb5 2
                   have y3 := blk_lt hb5
                   have Hb5 := Lib.hid hb5
                   have s5 : w.heap.size ≤ w5.heap.size := Nat.le_trans hsz hk5.size
                   clear hb5
                   simp at y1 y2)
                | (go_at_call 20; refine (ruse_any rb w.heap.size a cap limit T' now last N s n _ R5 s5 (by omega) _ HV2.out N' HN'.out).mono ?_; rintro _ w6 ⟨rfl, ⟨a6, q6, R6⟩, hk6⟩
                   have hb6 := blk_keep Hb5.out hk6 (fun e => hob3 e)
                   have T6 := T5.keep hk6 (fun e => hx1 e) (fun e => hx2 e)
                   have z1 := blk_cell hb6 1
                   have z2 := blk_cell hb6 2
                   have z3 := blk_lt hb6
                   clear hb6
                   simp at z1 z2))
            all_goals
              go_wp2_with fail
              have hobF := HobE.out
              subst hobF
              go_meet
              exact ⟨rfl, ⟨⟨L', last, N', now, a6, q6, T6, R6, HS.out, hl0, by omega, hn0, by omega, by omega, HA.out⟩⟩, ((hkV.drew.trans' hk5 (fun i hi e => by rcases e with e | e <;> omega)).trans' hk6 (fun i hi e => by have e2 : i = rb := e; omega))⟩
        · obtain ⟨v, hv⟩ : ∃ v, (lget L (kS s)).isSome = v := ⟨_, rfl⟩
          have hv2 : (N.find? (rhas s)).isSome = v := by rw [← hv, hget]; cases N.find? (rhas s) <;> rfl
          have hsim' := sim_drop hsim hapart s
          have hall' : ∀ x ∈ N.eraseP (rhas s), now < x.2.2 ∧ x.2.2 ≤ now + T' ∧ T' ≤ x.2.2 := fun x hx => hall x (List.mem_of_mem_eraseP hx)
          have hlen' : (ldel L (kS s)).length ≤ k := Nat.le_trans (List.length_filter_le _ _) hL
          have HS := Lib.hid hsim'
          have HA := Lib.hid hall'
          have HV := Lib.hid hv
          have HV2 := Lib.hid hv2
          have HX := Lib.hid hx3
          have HL := Lib.hid hlen'
          clear hsim hall hget hsim' hall' hv hv2 hx3 hlen'
          cases v
          all_goals
            go_wp2_with fail
            go_region_held3 (fun w' => w'.cell? ⟨ob, 1, none⟩ = some (.string s)) (first | go_keep | exact v1 | exact z1 | exact y1)
              (first
                | (go_at_call 15; with_reducible refine (kill_nil s _).mono ?_; rintro _ _ ⟨rfl, rfl⟩)
                | (go_at_call 15; refine (kill_any tb mb limit T last L s _ (T4.keep ((Keep.refl NoB V).drew) (fun h => h) (fun h => h)) hs _ HV.out).mono ?_; rintro _ w5 ⟨rfl, T5, hk5⟩
                   have hb5 := blk_keep (blk_drew HbV.out) hk5 (fun e => by rcases e with e | e; exact hob1 e; exact hob2 e)
                   have R5 := (R4.keep ((Keep.refl NoB V).drew) (fun h => h) (fun _ _ h => h)).keep hk5 (fun e => by rcases e with e | e; exact hx1 e.symm; exact hx2 e.symm) (fun g hg e => by rcases e with e | e; exact (HX.out g hg).1 e; exact (HX.out g hg).2 e)
                   have y1 := blk_cell hb5 1
                   have y3 := blk_lt hb5
                   have Hb5 := Lib.hid hb5
                   have s5 : w.heap.size ≤ w5.heap.size := Nat.le_trans hsz hk5.size
                   clear hb5
                   simp at y1)
                | (go_at_call 21; refine (rkill_any rb w.heap.size a cap limit T' now last N s _ R5 s5 (by omega) _ HV2.out).mono ?_; rintro _ w6 ⟨rfl, ⟨a6, q6, R6⟩, hk6⟩
                   have hb6 := blk_keep Hb5.out hk6 (fun e => hob3 e)
                   have T6 := T5.keep hk6 (fun e => hx1 e) (fun e => hx2 e)
                   have z1 := blk_cell hb6 1
                   have z3 := blk_lt hb6
                   clear hb6
                   simp at z1))
            all_goals
              go_wp2_with fail
              have hobF := HobE.out
              subst hobF
              go_meet
              exact ⟨rfl, ⟨⟨_, last, _, now, a6, q6, T6, R6, HS.out, hl0, by omega, hn0, by omega, by have := HL.out; omega, HA.out⟩⟩, ((hkV.drew.trans' hk5 (fun i hi e => by rcases e with e | e <;> omega)).trans' hk6 (fun i hi e => by have e2 : i = rb := e; omega))⟩
        · have hDD : D = 0 ∨ (0 ≤ D ∧ ∀ x ∈ N, now + 1 < x.2.2) := by
            have hD9 := HD.out
            rcases hT4 with h | h
            · left; omega
            · right
              exact ⟨by omega, fun x hx => by have := hall x hx; omega⟩
          have hsim' := sim_tick hsim hDD
          have hall' : ∀ x ∈ N.filter (fun x => decide (now + 1 < x.2.2)), now + 1 < x.2.2 ∧ x.2.2 ≤ now + 1 + T' ∧ T' ≤ x.2.2 := by
            intro x hx
            obtain ⟨h1, h2⟩ := List.mem_filter.1 hx
            have := hall x h1
            simp at h2
            omega
          have hb9 : ∀ p ∈ L, 1 ≤ p.2.2 ∧ p.2.2 ≤ 9223372036854775807 := by
            intro p hp
            obtain ⟨x, hx, rfl⟩ := List.mem_map.1 (hsim.mem_iff.1 hp)
            have := hall x hx
            have := HD.out
            simp only [toL]
            omega
          have HS := Lib.hid hsim'
          have HA := Lib.hid hall'
          have HX := Lib.hid hx3
          have HL := Lib.hid (tick_len L)
          have HB := Lib.hid hb9
          clear hsim hall hget hsim' hall' hx3 hb9
          go_wp2_with fail
          refine (tick_any tb mb limit T last L _ T4 (by unfold maxLen; omega) HB.out).mono ?_
          rintro _ w5 ⟨rfl, T5, hk5⟩
          have R5 := R4.keep hk5 (fun e => by rcases e with e | e; exact hx1 e.symm; exact hx2 e.symm) (fun g hg e => by rcases e with e | e; exact (HX.out g hg).1 e; exact (HX.out g hg).2 e)
          have s5 : w.heap.size ≤ w5.heap.size := Nat.le_trans hsz hk5.size
          go_wp2_with fail
          refine (rtick_any rb w.heap.size a cap limit T' now last N _ R5 s5 (by omega) hn0 (by omega)).mono ?_
          rintro _ w6 ⟨rfl, ⟨a6, q6, R6⟩, hk6⟩
          have T6 := T5.keep hk6 (fun e => hx1 e) (fun e => hx2 e)
          go_wp2_with fail
          refine (tick_nil _).mono ?_
          rintro _ _ ⟨rfl, rfl⟩
          go_wp2_with fail
          have hobF := HobE.out
          subst hobF
          go_meet
          exact ⟨rfl, ⟨⟨_, last, _, now + 1, a6, q6, T6, R6, HS.out, hl0, by omega, by omega, by omega, by have := HL.out; omega, HA.out⟩⟩, ((hkV.trans' hk5 (fun i hi e => by rcases e with e | e <;> omega)).trans' hk6 (fun i hi e => by have e2 : i = rb := e; omega))⟩
        · have HX := Lib.hid hx3
          clear hsim hall hget hx3
          go_wp2_with fail
          refine (clear_any tb mb limit T last L _ T4).mono ?_
          rintro _ w5 ⟨rfl, T5, hk5⟩
          have R5 := R4.keep hk5 (fun e => by rcases e with e | e; exact hx1 e.symm; exact hx2 e.symm) (fun g hg e => by rcases e with e | e; exact (HX.out g hg).1 e; exact (HX.out g hg).2 e)
          have r0 := blk_cell R5.blk 0
          have r1 := blk_free R5.blk 0
          have r2 := blk_lt R5.blk
          have HR5 := Lib.hid R5.blk
          simp at r0
          clear R5
          go_wp2_with fail
          refine (clear_nil _).mono ?_
          rintro _ _ ⟨rfl, rfl⟩
          go_wp2_with fail
          have hobF := HobE.out
          subst hobF
          go_meet
          have hb6 := blk_setCell (i := 0) HR5.out (.slice none 0 0)
          have k6 : Keep (OneB rb) w5 (w5.setCell ⟨rb, 0, none⟩ (.slice none 0 0)) := Keep.setCell (Keep.refl (OneB rb) w5) (p := ⟨rb, 0, none⟩) (Or.inr rfl) _
          have T6 := T5.keep k6 (fun e => hx1 e) (fun e => hx2 e)
          exact ⟨rfl, ⟨⟨[], last, [], now, none, 0, T6, ⟨by simpa using hb6, Own.nil _ _ _ _ _⟩, List.Perm.refl _, hl0, by omega, hn0, by omega, by simp, by simp⟩⟩, ((hkV.trans' hk5 (fun i hi e => by rcases e with e | e <;> omega)).trans' k6 (fun i hi e => by have e2 : i = rb := e; omega))⟩
        · clear hsim hall hget
          go_wp2_with fail
          have hobF := HobE.out
          subst hobF
          go_meet
          exact ⟨rfl, hBV.mono (by omega), hkV⟩
      case rest =>
        obtain ⟨rfl, hB, hk⟩ := hcut
        obtain ⟨L, last, N, now, a, cap, T4, R4, hsim, hl0, hl1, hn0, hn1, hL, hall⟩ := hB.ex
        have hNl := sim_len hsim
        have hne : ((L.length : Int) != (N.length : Int)) = false := by rw [hNl]; simp
        have r0 := blk_cell R4.blk 0
        have r4 := blk_cell R4.blk 4
        have r5 := blk_lt R4.blk
        have HT4 := Lib.hid T4
        have HB := Lib.hid hB
        simp at r0 r4
        clear hsim hall hB T4 R4 hop hkd
        go_wp2_with fail
        go_quiet ((first | (go_at_call 16; exact Calls.quiet_of_same (len_any tb mb limit T last L _ (HT4.out.keep ((Keep.refl NoB wc).drewN _) (fun h => h) (fun h => h)))) | (go_at_call 11; exact Calls.quiet_of_same (granted_any tb mb limit T last L _ (HT4.out.keep ((Keep.refl NoB wc).drewN _) (fun h => h) (fun h => h))))))
        go_wp2_with fail
        go_roundw
        case rel => exact ⟨k + 1, hlt, h200, by go_num, HB.out.keep ((Keep.refl NoB wc).drewN _), hk.drewN _⟩
        case measure => simp [intOf]; omega
    · have hout : (¬ k < len0 ∧ decide ((k : Int) < (len0 : Int)) = false) ∨ (k < len0 ∧ ¬ k < 300 ∧ decide ((k : Int) < 300) = false) := by
        by_cases h1 : k < len0
        · right
          have : ¬ k < 300 := fun h => hgo ⟨h1, h⟩
          exact ⟨h1, this, by simp; omega⟩
        · left
          exact ⟨h1, by simp; omega⟩
      clear hgo hB
      rcases hout with ⟨h1, hd⟩ | ⟨h1, h2, hd⟩
      all_goals
        go_wp2_with fail
        refine (len_nil _).mono ?_
        rintro _ _ ⟨rfl, rfl⟩
        go_wp2_with fail
        refine (granted_nil _).mono ?_
        rintro _ _ ⟨rfl, rfl⟩
        go_wp2
        go_ret
        exact ⟨rfl, hk.below (fun _ _ h => h)⟩
end Go.Proofs.Ytmndmgfianhbpaa
