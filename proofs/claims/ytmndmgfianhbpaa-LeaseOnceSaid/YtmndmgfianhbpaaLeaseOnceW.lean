/- The walk of LeaseOnce. -/
import Derived.Test.YtmndmgfianhbpaaLeaseOnceQ
import Derived.Deep.Cut
import Derived.Deep.CutRange
import Derived.Deep.CutBlock
import Derived.OpenShut
import Derived.Deep.RegionLaw
namespace Go.Proofs.Ytmndmgfianhbpaa
open Go Go.RowKit Go.Maps

/-- An op of the laws: its number, its key, its token. -/
abbrev LOp := Int × ByteArray × Int
def lopCells (x : LOp) : List Value := [.int .i64 x.1, .string x.2.1, .int .i64 x.2.2]
def lopOk (x : LOp) : Prop := (Lit.int .i64 x.1).wf = true ∧ x.2.1.size ≤ maxLen ∧ (Lit.int .i64 x.2.2).wf = true

/-- What the walk is told of a slice of ops. -/
def IsLOps (w : World) (a : Option Addr) (len : Nat) (z : Nat → LOp) : Prop :=
  len ≤ maxLen ∧ (∀ i, i < len → lopOk (z i)) ∧
    (len = 0 ∨ ∃ b off, a = some ⟨b, off, none⟩ ∧ b < w.heap.size ∧ ∀ i, i < len → w.cell? ⟨b, off + i * 3, none⟩ = some (.int .i64 (z i).1) ∧ w.cell? ⟨b, off + i * 3 + 1, none⟩ = some (.string (z i).2.1) ∧ w.cell? ⟨b, off + i * 3 + 2, none⟩ = some (.int .i64 (z i).2.2))

theorem info2' : (Try.prog.info? 2).map (fun i => (i.zero, i.size, i.bytes)) = some (some (.int .i64 0), 1, 8) := by kernel_rfl
theorem info3' : (Try.prog.info? 3).map (fun i => (i.zero, i.size, i.bytes)) = some (some (.int .i64 0), 1, 8) := by kernel_rfl
theorem info9' : (Try.prog.info? 9).map (fun i => (i.zero, i.size, i.bytes)) = some (some (.string ⟨#[]⟩), 1, 16) := by kernel_rfl

theorem heap_alloc' (w : World) (o : Obj) : (w.alloc o).heap = w.heap.push o := rfl
theorem heap_drew' (w : World) : w.drew.heap = w.heap := rfl

theorem and15 (n : Int) : bits .and .i64 n 15 = n % 16 := by
  have key : (BitVec.ofInt 64 n &&& BitVec.ofInt 64 15).toNat = (n % 18446744073709551616).toNat % 16 := by
    have h31 : (BitVec.ofInt 64 15).toNat = 2 ^ 4 - 1 := by decide
    rw [BitVec.toNat_and, BitVec.toNat_ofInt, h31, Nat.and_two_pow_sub_one_eq_mod]
    rfl
  show IntKind.i64.wrap ((BitVec.ofInt 64 n &&& BitVec.ofInt 64 15).toNat : Nat) = n % 16
  rw [key, IntKind.wrap_i64]
  omega

/-- The table, and the three lists. -/
structure Once (w : World) (B tb mb : Nat) (limit T : Int) (k : Nat) (vt vk vs : Value) : Prop where
  ex : ∃ (L : LL) (last : Int) (Tk : List Int) (Ks : List ByteArray) (Sn : List Int), Tab w tb mb limit T last L ∧ Own w B 2 1 cI vt Tk ∧ Own w B 9 1 cS vk Ks ∧ Own w B 3 1 cI vs Sn ∧ OI T last L Tk Ks Sn ∧ 0 ≤ last ∧ last ≤ k ∧ L.length ≤ k ∧ Tk.length ≤ k ∧ Lefts L T









set_option maxRecDepth 100000 in
set_option maxHeartbeats 20000000 in
theorem once_walk (limit ticks : Int) (a0 : Option Addr) (len0 cap0 : Nat) (z : Nat → LOp) (w : World) (h0 : IsLOps w a0 len0 z) :
    Calls Try.prog 7 #[.int .i64 limit, .int .i64 ticks, .slice a0 len0 cap0] w fun e w' => e = .returned (.bool true) ∧ Below w.heap.size w w' := by
  obtain ⟨hmax, hok, hrow⟩ := h0
  unfold maxLen at hmax
  go_enter Try.func7, Try.ntmps7
  go_wp2_with fail
  refine (awake_any _).mono ?_
  rintro _ w1 ⟨rfl, hk1⟩
  have hT0 := and15 ticks
  have hT2 : 0 ≤ bits .and .i64 ticks 15 := by omega
  have hT3 : bits .and .i64 ticks 15 ≤ 15 := by omega
  clear hT0
  go_wp2_with fail
  generalize bits .and .i64 ticks 15 = T0 at *
  with_reducible refine (new_any limit (1 + T0) (1 + T0) _ (by omega)).mono ?_
  rintro _ w2 ⟨rfl, T2, hk2, hs2⟩
  have hlo : w.heap.size ≤ w1.heap.size := hk1.size
  have hk : Keep NoB w w2 := hk1.trans hk2
  generalize htb : w1.heap.size + 1 = tb at *
  generalize hmb : w1.heap.size = mb at *
  have hlo2 : w.heap.size ≤ tb := by omega
  clear hk1 hk2 hs2 htb hmb
  have hTT : 1 ≤ 1 + T0 ∧ 1 + T0 ≤ 16 := by omega
  generalize 1 + T0 = T at *
  obtain ⟨hT4, hT5⟩ := hTT
  clear hT2 hT3
  go_wp2_with fail
  have B2 : Once w2 w.heap.size tb mb limit T 0 (.slice none 0 0) (.slice none 0 0) (.slice none 0 0) := ⟨⟨[], 0, [], [], [], T2, Own.nil _ _ _ _ _, Own.nil _ _ _ _ _, Own.nil _ _ _ _ _, oi_nil T, by omega, by omega, by simp, by simp, by intro p hp; simp at hp⟩⟩
  clear T2
  go_loopw [8, 9, 10, 11] (fun vt vk vs i wr => ∃ k : Nat, k ≤ len0 ∧ k ≤ 200 ∧ i = .int .i64 k ∧ Once wr w.heap.size tb mb limit T k vt vk vs ∧ Keep NoB w wr) (fun _ _ _ i _ => len0 - (intOf i).toNat)
  case atStart => exact ⟨0, Nat.zero_le _, Nat.zero_le _, rfl, B2, hk⟩
  case round =>
    clear B2 hk
    obtain ⟨k, hk0, hk100, rfl, hB, hk⟩ := hrel
    by_cases hgo : k < len0 ∧ k < 200
    · obtain ⟨hlt, h200⟩ := hgo
      have h200i : decide ((k : Int) < 200) = true := by simp; omega
      rcases hrow with h | ⟨b, off, rfl, hb, hc⟩
      · omega
      have hcw := hc k hlt
      have hop := hok k hlt
      clear hc
      generalize hzk : z k = x at hcw hop
      clear hzk
      obtain ⟨kd, s, n⟩ := x
      obtain ⟨hcw0, hcw1, hcw2⟩ := hcw
      have hs : s.size ≤ maxLen := hop.2.1
      simp only at hcw0 hcw1 hcw2
      have hb0 : b < wr.heap.size := Nat.lt_of_lt_of_le hb hk.size
      have l00 : wr.cell? ⟨b, off + k * 3, none⟩ = some (.int .i64 kd) := (hk.cell (p := ⟨b, off + k * 3, none⟩) hb (fun h => h)).trans hcw0
      have l01 : wr.cell? ⟨b, off + k * 3 + 1, none⟩ = some (.string s) := (hk.cell (p := ⟨b, off + k * 3 + 1, none⟩) hb (fun h => h)).trans hcw1
      have l02 : wr.cell? ⟨b, off + k * 3 + 2, none⟩ = some (.int .i64 n) := (hk.cell (p := ⟨b, off + k * 3 + 2, none⟩) hb (fun h => h)).trans hcw2
      clear hcw0 hcw1 hcw2
      have hkd : kd = 0 ∨ kd = 1 ∨ kd = 2 ∨ kd = 3 ∨ kd = 4 ∨ ((kd == 0) = false ∧ (kd == 1) = false ∧ (kd == 2) = false ∧ (kd == 3) = false ∧ (kd == 4) = false) := by
        simp; omega
      go_upto_block 2 with fail
      obtain ⟨L, last, Tk, Ks, Sn, T4, OT, OK, OS, hoi, hl0, hl1, hL, hTk, hlf⟩ := hB.ex
      have T4 := T4.keep ((Keep.refl NoB wr).alloc (.cells #[.int .i64 kd, .string s, .int .i64 n] 44)) (fun h => h) (fun h => h)
      have OT := OT.alloc (.cells #[.int .i64 kd, .string s, .int .i64 n] 44)
      have OK := OK.alloc (.cells #[.int .i64 kd, .string s, .int .i64 n] 44)
      have OS := OS.alloc (.cells #[.int .i64 kd, .string s, .int .i64 n] 44)
      have hkV := hk.alloc (.cells #[.int .i64 kd, .string s, .int .i64 n] 44)
      have hbV := blk_new wr (.cells #[.int .i64 kd, .string s, .int .i64 n] 44)
      generalize World.alloc wr (.cells #[.int .i64 kd, .string s, .int .i64 n] 44) = V at T4 OT OK OS hkV hbV ⊢
      generalize hobE : wr.heap.size = ob at hbV ⊢
      have HobE := Lib.hid hobE
      clear hobE
      obtain ⟨aT, cT, rfl⟩ := OT.shape
      obtain ⟨aK, cK, rfl⟩ := OK.shape
      obtain ⟨aS, cS', rfl⟩ := OS.shape
      have v0 := blk_cell hbV 0
      have v1 := blk_cell hbV 1
      have v2 := blk_cell hbV 2
      have v3 := blk_lt hbV
      have HbV := Lib.hid hbV
      simp at v0 v1 v2
      clear hbV l00 l01 l02 hb0 hB hk
      have hsz : w.heap.size ≤ V.heap.size := hkV.size
      have hapart := T4.map.apart law9
      have hob1 : ob ≠ tb := by intro e; have h1 := T4.blk; rw [← e, HbV.out] at h1; cases h1
      have hob2 : ob ≠ mb := by intro e; obtain ⟨es, clock, h1, _⟩ := T4.map; rw [← e, HbV.out] at h1; cases h1
      have hlen1 : Ks.length ≤ Tk.length := Nat.le_of_eq hoi.1
      have hlen2 : Tk.length ≤ Ks.length := Nat.le_of_eq hoi.1.symm
      have hlen3 : Sn.length ≤ Tk.length := Nat.le_of_eq hoi.2.1
      have hlen4 : Tk.length ≤ Sn.length := Nat.le_of_eq hoi.2.1.symm
      have HO := Lib.hid hoi
      have HLf := Lib.hid hlf
      clear hoi hlf
      rcases hkd with rfl | rfl | rfl | rfl | rfl | ⟨e0, e1, e2, e3, e4⟩
      · as_aux_lemma =>
        by_cases hnew : ¬ limit ≤ (L.length : Int) ∧ lget L (kS s) = none
        · have hg : grantR limit T last L (kS s) = (last + 1, true, last + 1, lput L (kS s) (last + 1, T)) := by unfold grantR; rw [if_neg hnew.1, hnew.2]
          obtain ⟨L', hL'⟩ : ∃ l, lput L (kS s) (last + 1, T) = l := ⟨_, rfl⟩
          rw [hL'] at hg
          obtain ⟨hln1, hB2, hB3⟩ := grant_len hg hapart
          have hlf' := grant_lefts hg HLf.out hT4
          have hoi' := oi_grant HO.out s hT4 hnew.2
          rw [hL'] at hoi'
          obtain ⟨Tk', hTk'⟩ : ∃ l, Tk ++ [last + 1] = l := ⟨_, rfl⟩
          obtain ⟨Ks', hKs'⟩ : ∃ l, Ks ++ [s] = l := ⟨_, rfl⟩
          obtain ⟨Sn', hSn'⟩ : ∃ l, Sn ++ [0] = l := ⟨_, rfl⟩
          rw [hTk', hKs', hSn'] at hoi'
          have hTl : Tk'.length ≤ k + 1 := by rw [← hTk']; simp; omega
          have HT' := Lib.hid hTk'
          have HK' := Lib.hid hKs'
          have HS' := Lib.hid hSn'
          have HG := Lib.hid hg
          have Hlf' := Lib.hid hlf'
          have Hoi' := Lib.hid hoi'
          clear hTk' hKs' hSn' hg hlf' hoi' hL' hnew hapart
          go_wp2_with fail
          refine (grant_any tb mb limit T last L s _ T4 hs (by unfold maxLen; omega) hl0 (by omega) _ _ _ _ HG.out).mono ?_
          rintro _ w5 ⟨rfl, T5, hk5⟩
          have K5 : Keep NoB w w5 := hkV.trans' hk5 (fun i hi e => by rcases e with e | e <;> omega)
          have OT5 := OT.keep hk5 (fun g hg e => by rcases e with e | e; exact OT.ne T4.blk (by decide) g hg e; exact OT.ne_map T4.map g hg e)
          have OK5 := OK.keep hk5 (fun g hg e => by rcases e with e | e; exact OK.ne T4.blk (by decide) g hg e; exact OK.ne_map T4.map g hg e)
          have OS5 := OS.keep hk5 (fun g hg e => by rcases e with e | e; exact OS.ne T4.blk (by decide) g hg e; exact OS.ne_map T4.map g hg e)
          have hb5 := blk_keep HbV.out hk5 (fun e => by rcases e with e | e; exact hob1 e; exact hob2 e)
          have y1 := blk_cell hb5 1
          have y2 := blk_cell hb5 2
          have y3 := blk_lt hb5
          have Hb5 := Lib.hid hb5
          have s5 : w.heap.size ≤ w5.heap.size := K5.size
          simp at y1 y2
          clear hb5 v0 v1 v2 T4 OT OK OS hkV hk5
          clear y2
          go_wp2_with fail
          go_loop [58] (fun j => ∃ jn : Nat, jn ≤ Tk.length ∧ j = .int .i64 jn) (fun j => Tk.length - (intOf j).toNat)
          case atStart => exact ⟨0, Nat.zero_le _, rfl⟩
          case round =>
            obtain ⟨jn, hj, rfl⟩ := hrel
            by_cases hjl : jn < Tk.length
            · obtain ⟨t, hb⟩ : ∃ t, Tk[jn]? = some t := ⟨_, List.getElem?_eq_getElem hjl⟩
              obtain ⟨g, hv, hg1, hg2, m0, m1⟩ := OT5.cell1 cI_len hb rfl
              cases hv
              have hle := oi_grown HO.out (List.mem_of_getElem? hb)
              have hd1 : decide (last + 1 ≤ t) = false := by simp; omega
              clear hb
              go_wp2_with fail
              go_round
              case rel => exact ⟨jn + 1, hjl, by go_num⟩
              case measure => simp [intOf]; omega
            · go_wp2_with fail
              have x0 := y1
              clear y1 hok HobE hob1 hob2 HbV hop HG hsz v3 hjl hj hB2 hB3 T4 OT OK OS HO HLf
              go_region_held3 (fun w' => w'.cell? ⟨ob, 1, none⟩ = some (.string s)) (first | exact x0 | exact x6 | exact x7 | exact x8 | (with_reducible refine Keep.some (S := NoB) (w := w5) ?_ x0 (fun h => h); (repeat (with_reducible first | exact Keep.refl _ _ | assumption | refine Keep.alloc ?_ _ | refine Keep.drewN ?_ _ | refine Keep.drew ?_ | refine Keep.setCell ?_ (by first | (left; simp; done) | (left; simp; omega) | (right; simp [NoB, OneB, TwoB]; done)) _)); done) | (with_reducible refine Keep.some (S := NoB) (w := w6) ?_ x6 (fun h => h); (repeat (with_reducible first | exact Keep.refl _ _ | assumption | refine Keep.alloc ?_ _ | refine Keep.drewN ?_ _ | refine Keep.drew ?_ | refine Keep.setCell ?_ (by first | (left; simp; done) | (left; simp; omega) | (right; simp [NoB, OneB, TwoB]; done)) _)); done) | (with_reducible refine Keep.some (S := NoB) (w := w7) ?_ x7 (fun h => h); (repeat (with_reducible first | exact Keep.refl _ _ | assumption | refine Keep.alloc ?_ _ | refine Keep.drewN ?_ _ | refine Keep.drew ?_ | refine Keep.setCell ?_ (by first | (left; simp; done) | (left; simp; omega) | (right; simp [NoB, OneB, TwoB]; done)) _)); done) | go_keep)
                (first
                  | (refine step_append_one rfl (.tmp 70) (.tmp 72) 41 rfl Try.underlying41 info2' (by kernel_rfl) (by decide) (by decide) rfl (OT5.keep (show Keep NoB w5 _ by (repeat (with_reducible first | exact Keep.refl _ _ | assumption | refine Keep.alloc ?_ _ | refine Keep.drewN ?_ _ | refine Keep.drew ?_ | refine Keep.setCell ?_ (by first | (left; simp; done) | (left; simp; omega) | (right; simp [NoB, OneB, TwoB]; done)) _))) (fun _ _ h => h)) cI_len (last + 1) rfl (c := #[.int .i64 (last + 1)]) (t' := 2) (f := (0, 0)) (by (simp only [heap_alloc', heap_drew', Array.getElem?_push, Array.size_push]; simp; try omega)) rfl (cI_one _) (by omega) (by first | omega | (simp; omega)) HT'.out ?_; intro a6 q6 w6 O6 k6
                     have K56 : Keep (fun g => (Value.slice aT Tk.length cT).ownBlock = some g) w5 w6 := by
                       refine Keep.trans ?_ k6
                       (repeat (with_reducible first | exact Keep.refl _ _ | assumption | refine Keep.alloc ?_ _ | refine Keep.drewN ?_ _ | refine Keep.drew ?_ | refine Keep.setCell ?_ (by first | (left; simp; done) | (left; simp; omega) | (right; simp [NoB, OneB, TwoB]; done)) _))
                     have HB6 := Lib.hid (show ∀ i o, w5.heap.size ≤ i → _ → w6.heap[i]? = some o from fun i o hi h => blk_keep h k6 (fun e => by have := OT5.lt _ e; omega))
                     have s6 := K56.size
                     have OK6 := OK5.keep K56 (fun g hg e => OK5.ne_own OT5 (by decide) g hg e)
                     have OS6 := OS5.keep K56 (fun g hg e => OS5.ne_own OT5 (by decide) g hg e)
                     have T6 := T5.keep K56 (fun e => OT5.ne T5.blk (by decide) _ e rfl) (fun e => OT5.ne_map T5.map _ e rfl)
                     have Hb6 := Lib.hid (blk_keep Hb5.out K56 (fun e => OT5.ne Hb5.out (by decide) _ e rfl))
                     have l6 := blk_lt Hb6.out
                     have x6 := K56.some x0 (fun e => OT5.ne Hb5.out (by decide) _ e rfl)
                     have KN6 : Keep NoB w w6 := K5.trans' K56 (fun i hi e => by have := OT5.fresh _ e; omega))
                  | (refine step_append_one rfl (.tmp 74) (.tmp 77) 22 rfl Try.underlying22 info9' (by kernel_rfl) (by decide) (by decide) rfl (OK6.keep (show Keep NoB w6 _ by (repeat (with_reducible first | exact Keep.refl _ _ | assumption | refine Keep.alloc ?_ _ | refine Keep.drewN ?_ _ | refine Keep.drew ?_ | refine Keep.setCell ?_ (by first | (left; simp; done) | (left; simp; omega) | (right; simp [NoB, OneB, TwoB]; done)) _))) (fun _ _ h => h)) cS_len s rfl (c := #[.string s]) (t' := 9) (f := (0, 0)) (by first | ((simp only [heap_alloc', heap_drew', Array.getElem?_push, Array.size_push]; simp; try omega); done) | ((repeat refine blk_alloc ?_); exact HB6.out _ _ (by omega) (by (simp only [heap_alloc', heap_drew', Array.getElem?_push, Array.size_push]; simp; try omega)))) rfl (cS_one _) (by omega) (by first | omega | (simp; omega)) HK'.out ?_; intro a7 q7 w7 O7 k7
                     have K67 : Keep (fun g => (Value.slice aK Ks.length cK).ownBlock = some g) w6 w7 := by
                       refine Keep.trans ?_ k7
                       (repeat (with_reducible first | exact Keep.refl _ _ | assumption | refine Keep.alloc ?_ _ | refine Keep.drewN ?_ _ | refine Keep.drew ?_ | refine Keep.setCell ?_ (by first | (left; simp; done) | (left; simp; omega) | (right; simp [NoB, OneB, TwoB]; done)) _))
                     have HB7 := Lib.hid (show ∀ i o, w5.heap.size ≤ i → _ → w7.heap[i]? = some o from fun i o hi h => blk_keep h k7 (fun e => by have := OK5.lt _ e; omega))
                     have s7 := K67.size
                     have OT7 := O6.keep K67 (fun g hg e => O6.ne_own OK6 (by decide) g hg e)
                     have OS7 := OS6.keep K67 (fun g hg e => OS6.ne_own OK6 (by decide) g hg e)
                     have T7 := T6.keep K67 (fun e => OK6.ne T6.blk (by decide) _ e rfl) (fun e => OK6.ne_map T6.map _ e rfl)
                     have Hb7 := Lib.hid (blk_keep Hb6.out K67 (fun e => OK6.ne Hb6.out (by decide) _ e rfl))
                     have l7 := blk_lt Hb7.out
                     have x7 := K67.some x6 (fun e => OK6.ne Hb6.out (by decide) _ e rfl)
                     have KN7 : Keep NoB w w7 := KN6.trans' K67 (fun i hi e => by have := OK6.fresh _ e; omega))
                  | (refine step_append_one rfl (.tmp 79) (.tmp 80) 42 rfl Try.underlying42 info3' (by kernel_rfl) (by decide) (by decide) rfl (OS7.keep (show Keep NoB w7 _ by (repeat (with_reducible first | exact Keep.refl _ _ | assumption | refine Keep.alloc ?_ _ | refine Keep.drewN ?_ _ | refine Keep.drew ?_ | refine Keep.setCell ?_ (by first | (left; simp; done) | (left; simp; omega) | (right; simp [NoB, OneB, TwoB]; done)) _))) (fun _ _ h => h)) cI_len 0 rfl (c := #[.int .i64 0]) (t' := 3) (f := (0, 0)) (by first | ((simp only [heap_alloc', heap_drew', Array.getElem?_push, Array.size_push]; simp; try omega); done) | ((repeat refine blk_alloc ?_); exact HB7.out _ _ (by omega) (by first | ((simp only [heap_alloc', heap_drew', Array.getElem?_push, Array.size_push]; simp; try omega); done) | ((repeat refine blk_alloc ?_); exact HB6.out _ _ (by omega) (by (simp only [heap_alloc', heap_drew', Array.getElem?_push, Array.size_push]; simp; try omega)))))) rfl (cI_one _) (by omega) (by first | omega | (simp; omega)) HS'.out ?_; intro a8 q8 w8 O8 k8
                     have K78 : Keep (fun g => (Value.slice aS Sn.length cS').ownBlock = some g) w7 w8 := by
                       refine Keep.trans ?_ k8
                       (repeat (with_reducible first | exact Keep.refl _ _ | assumption | refine Keep.alloc ?_ _ | refine Keep.drewN ?_ _ | refine Keep.drew ?_ | refine Keep.setCell ?_ (by first | (left; simp; done) | (left; simp; omega) | (right; simp [NoB, OneB, TwoB]; done)) _))
                     have OT8 := OT7.keep K78 (fun g hg e => OT7.ne_own OS7 (by decide) g hg e)
                     have OK8 := O7.keep K78 (fun g hg e => O7.ne_own OS7 (by decide) g hg e)
                     have T8 := T7.keep K78 (fun e => OS7.ne T7.blk (by decide) _ e rfl) (fun e => OS7.ne_map T7.map _ e rfl)
                     have x8 := K78.some x7 (fun e => OS7.ne Hb7.out (by decide) _ e rfl)
                     have K8 : Keep NoB w w8 := KN7.trans' K78 (fun i hi e => by have := OS7.fresh _ e; omega)))
              all_goals
                as_aux_lemma =>
                  go_wp2_with fail
                  go_roundw
                  case rel => exact ⟨k + 1, hlt, h200, by go_num, ⟨⟨L', last + 1, Tk', Ks', Sn', T8, OT8, OK8, O8, Hoi'.out, by omega, by omega, by omega, by omega, Hlf'.out⟩⟩, K8⟩
                  case measure => simp [intOf]; omega
        · have hg : grantR limit T last L (kS s) = (0, false, last, L) := by
            unfold grantR
            by_cases h1 : limit ≤ (L.length : Int)
            · rw [if_pos h1]
            · rw [if_neg h1]
              cases hgl : lget L (kS s) with
              | none => exact absurd ⟨h1, hgl⟩ hnew
              | some x => rfl
          have HG := Lib.hid hg
          clear hg hnew hapart
          go_wp2_with fail
          refine (grant_any tb mb limit T last L s _ T4 hs (by unfold maxLen; omega) hl0 (by omega) _ _ _ _ HG.out).mono ?_
          rintro _ w5 ⟨rfl, T5, hk5⟩
          have K5 : Keep NoB w w5 := hkV.trans' hk5 (fun i hi e => by rcases e with e | e <;> omega)
          have OT5 := OT.keep hk5 (fun g hg e => by rcases e with e | e; exact OT.ne T4.blk (by decide) g hg e; exact OT.ne_map T4.map g hg e)
          have OK5 := OK.keep hk5 (fun g hg e => by rcases e with e | e; exact OK.ne T4.blk (by decide) g hg e; exact OK.ne_map T4.map g hg e)
          have OS5 := OS.keep hk5 (fun g hg e => by rcases e with e | e; exact OS.ne T4.blk (by decide) g hg e; exact OS.ne_map T4.map g hg e)
          have hb5 := blk_keep HbV.out hk5 (fun e => by rcases e with e | e; exact hob1 e; exact hob2 e)
          have y1 := blk_cell hb5 1
          have y2 := blk_cell hb5 2
          have y3 := blk_lt hb5
          have Hb5 := Lib.hid hb5
          have s5 : w.heap.size ≤ w5.heap.size := K5.size
          simp at y1 y2
          clear hb5 v0 v1 v2 T4 OT OK OS hkV hk5
          clear y1 y2
          go_wp2_with fail
          go_loop [58] (fun j => ∃ jn : Nat, jn ≤ Tk.length ∧ j = .int .i64 jn) (fun j => Tk.length - (intOf j).toNat)
          case atStart => exact ⟨0, Nat.zero_le _, rfl⟩
          case round =>
            obtain ⟨jn, hj, rfl⟩ := hrel
            by_cases hjl : jn < Tk.length
            · obtain ⟨t, hb⟩ : ∃ t, Tk[jn]? = some t := ⟨_, List.getElem?_eq_getElem hjl⟩
              obtain ⟨g, hv, hg1, hg2, m0, m1⟩ := OT5.cell1 cI_len hb rfl
              cases hv
              clear hb
              go_wp2_with fail
              go_round
              case rel => exact ⟨jn + 1, hjl, by go_num⟩
              case measure => simp [intOf]; omega
            · go_wp2_with fail
              go_roundw
              case rel => exact ⟨k + 1, hlt, h200, by go_num, ⟨⟨L, last, Tk, Ks, Sn, T5, OT5, OK5, OS5, HO.out, hl0, by omega, by omega, by omega, HLf.out⟩⟩, K5⟩
              case measure => simp [intOf]; omega
      · as_aux_lemma =>
        obtain ⟨v, hv⟩ : ∃ v, useB L (kS s) n = v := ⟨_, rfl⟩
        obtain ⟨L', hL'⟩ : ∃ l, useL L (kS s) n = l := ⟨_, rfl⟩
        have HV := Lib.hid hv
        have HL' := Lib.hid hL'
        have HLn : Hid (L'.length ≤ L.length) := Lib.hid (by rw [← hL']; unfold useL; split; exact List.length_filter_le _ _; exact Nat.le_refl _)
        clear hv hL'
        go_wp2_with fail
        refine (use_any tb mb limit T last L s n _ T4 hs v HV.out L' HL'.out).mono ?_
        rintro _ w5 ⟨rfl, T5, hk5⟩
        have K5 : Keep NoB w w5 := hkV.trans' hk5 (fun i hi e => by rcases e with e | e <;> omega)
        have OT5 := OT.keep hk5 (fun g hg e => by rcases e with e | e; exact OT.ne T4.blk (by decide) g hg e; exact OT.ne_map T4.map g hg e)
        have OK5 := OK.keep hk5 (fun g hg e => by rcases e with e | e; exact OK.ne T4.blk (by decide) g hg e; exact OK.ne_map T4.map g hg e)
        have OS5 := OS.keep hk5 (fun g hg e => by rcases e with e | e; exact OS.ne T4.blk (by decide) g hg e; exact OS.ne_map T4.map g hg e)
        have hb5 := blk_keep HbV.out hk5 (fun e => by rcases e with e | e; exact hob1 e; exact hob2 e)
        have y1 := blk_cell hb5 1
        have y2 := blk_cell hb5 2
        have y3 := blk_lt hb5
        have Hb5 := Lib.hid hb5
        have s5 : w.heap.size ≤ w5.heap.size := K5.size
        simp at y1 y2
        clear hb5 v0 v1 v2 T4 OT OK OS hkV hk5
        go_wp2_with fail
        go_loopw [18, 92] (fun gd j wx => ∃ (gb : Bool) (jn : Nat) (M : List Int), gd = .bool gb ∧ Good n s Tk Ks Sn jn gb ∧ jn ≤ Sn.length ∧ j = .int .i64 jn ∧ Own wx w.heap.size 3 1 cI (.slice aS Sn.length cS') M ∧ St (strk (pUse n s)) Tk Ks Sn jn M ∧ Keep (fun g => (Value.slice aS Sn.length cS').ownBlock = some g) w5 wx) (fun _ j _ => Sn.length - (intOf j).toNat)
        case atStart => exact ⟨false, 0, Sn, rfl, good_start, Nat.zero_le _, rfl, OS5, st_start, Keep.refl _ _⟩
        case round =>
          obtain ⟨gb, jn, M, rfl, hG, hj, rfl, OM, hS, hx⟩ := hrel
          have HG := Lib.hid hG
          clear hG
          by_cases hjl : jn < Sn.length
          · obtain ⟨x, ha⟩ : ∃ x, Sn[jn]? = some x := ⟨_, List.getElem?_eq_getElem (by omega)⟩
            obtain ⟨t, hb⟩ : ∃ t, Tk[jn]? = some t := ⟨_, List.getElem?_eq_getElem (by omega)⟩
            obtain ⟨q, hc⟩ : ∃ q, Ks[jn]? = some q := ⟨_, List.getElem?_eq_getElem (by omega)⟩
            have hage := oi_age HO.out ha
            obtain ⟨hage1, hage2⟩ := hage
            have hM := st_read hS ha hb hc
            obtain ⟨g, hv, hg1, hg2, m0, m1⟩ := OM.cell1 cI_len hM rfl
            cases hv
            have HA := Lib.hid ha
            have HB := Lib.hid hb
            have HC := Lib.hid hc
            have HS := Lib.hid hS
            clear ha hb hc hM hS
            have OKx := OK5.keep hx (fun g hg e => OK5.ne_own OS5 (by decide) g hg e)
            have OTx := OT5.keep hx (fun g hg e => OT5.ne_own OS5 (by decide) g hg e)
            obtain ⟨gk, hv, hk1, hk2, mk0, mk1⟩ := OKx.cell1 cS_len HC.out rfl
            cases hv
            obtain ⟨gt, hv, ht1, ht2, mt0, mt1⟩ := OTx.cell1 cI_len HB.out rfl
            cases hv
            have z1 := hx.some y1 (fun e => OS5.ne Hb5.out (by decide) _ e rfl)
            have z2 := hx.some y2 (fun e => OS5.ne Hb5.out (by decide) _ e rfl)
            clear y1 y2
            by_cases htn : t = n
            · subst htn
              have hd1 : (t == t) = true := by simp
              by_cases hqs : q = s
              · subst hqs
                by_cases hx0 : 0 ≤ x
                · have hd3 : decide (0 ≤ x) = true := by simpa using hx0
                  have HS2 := Lib.hid (st_set HS.out HA.out HB.out HC.out (-1) (by simp [strk, pUse]))
                  have HG2 := Lib.hid (good_hit HA.out HB.out HC.out hx0)
                  go_wp2_with fail
                  go_quiet (fail)
                  go_wp2_with fail
                  go_roundw
                  case rel => exact ⟨true, jn + 1, _, rfl, HG2.out, hjl, by go_num, (OM.keep ((Keep.refl NoB wr).drewN nq) (fun _ _ h => h)).store cI_len jn (-1) rfl, HS2.out, (hx.drewN nq).setCell (p := ⟨_, jn, none⟩) (Or.inr rfl) _⟩
                  case measure => simp [intOf]; omega
                · have hd3 : decide (0 ≤ x) = false := by simpa using hx0
                  have HS2 := Lib.hid (st_miss HS.out HA.out HB.out HC.out (by simp [strk, pUse]; omega))
                  have HG2 := Lib.hid (good_miss HG.out HA.out HB.out HC.out (Or.inr (Or.inr hx0)))
                  go_wp2_with fail
                  go_quiet (fail)
                  go_wp2_with fail
                  go_roundw
                  case rel => exact ⟨gb, jn + 1, _, rfl, HG2.out, hjl, by go_num, OM.keep ((Keep.refl NoB wr).drewN nq) (fun _ _ h => h), HS2.out, hx.drewN nq⟩
                  case measure => simp [intOf]; omega
              · have HS2 := Lib.hid (st_miss HS.out HA.out HB.out HC.out (by simp [strk, pUse, hqs]))
                have HG2 := Lib.hid (good_miss HG.out HA.out HB.out HC.out (Or.inr (Or.inl hqs)))
                have hsd := strNe hqs
                clear hqs
                go_wp2_with fail
                go_quiet (fail)
                go_wp2_with fail
                go_roundw
                case rel => exact ⟨gb, jn + 1, _, rfl, HG2.out, hjl, by go_num, OM.keep ((Keep.refl NoB wr).drewN nq) (fun _ _ h => h), HS2.out, hx.drewN nq⟩
                case measure => simp [intOf]; omega
            · have HS2 := Lib.hid (st_miss HS.out HA.out HB.out HC.out (by simp [strk, pUse, htn]))
              have HG2 := Lib.hid (good_miss HG.out HA.out HB.out HC.out (Or.inl htn))
              have hd1 : (t == n) = false := by simpa using htn
              clear htn
              go_wp2_with fail
              go_quiet (fail)
              go_wp2_with fail
              go_roundw
              case rel => exact ⟨gb, jn + 1, _, rfl, HG2.out, hjl, by go_num, OM.keep ((Keep.refl NoB wr).drewN nq) (fun _ _ h => h), HS2.out, hx.drewN nq⟩
              case measure => simp [intOf]; omega
          · have hvg : v = gb := HV.out.symm.trans (good_end HO.out HG.out (by omega))
            subst hvg
            cases v
            all_goals
              have T6 := T5.keep hx (fun e => OS5.ne T5.blk (by decide) _ e rfl) (fun e => OS5.ne_map T5.map _ e rfl)
              have OT6 := OT5.keep hx (fun g hg e => OT5.ne_own OS5 (by decide) g hg e)
              have OK6 := OK5.keep hx (fun g hg e => OK5.ne_own OS5 (by decide) g hg e)
              have K6 : Keep NoB w wr := K5.trans' hx (fun i hi e => by have := OS5.fresh _ e; omega)
              have hoi' : OI T last (L') Tk Ks M := (oi_strike HO.out hT4 (by omega) hS (by rw [← HL'.out]; exact use_get L s n))
              have hlf' : Lefts (L') T := (by rw [← HL'.out]; unfold useL; split; exact (fun p hp => HLf.out p (List.mem_filter.1 hp).1); exact HLf.out)
              have Hoi' := Lib.hid hoi'
              have Hlf' := Lib.hid hlf'
              clear hS hoi' hlf'
              go_wp2_with fail
              go_roundw
              case rel => exact ⟨k + 1, hlt, h200, by go_num, ⟨⟨L', last, Tk, Ks, M, T6, OT6, OK6, OM, Hoi'.out, hl0, by omega, by have := HLn.out; omega, by omega, Hlf'.out⟩⟩, K6⟩
              case measure => simp [intOf]; omega
      · as_aux_lemma =>
        obtain ⟨v, hv⟩ : ∃ v, (lget L (kS s)).isSome = v := ⟨_, rfl⟩
        have HV := Lib.hid hv
        have HLn := Lib.hid (show (ldel L (kS s)).length ≤ L.length from List.length_filter_le _ _)
        clear hv
        go_wp2_with fail
        refine (kill_any tb mb limit T last L s _ T4 hs _ HV.out).mono ?_
        rintro _ w5 ⟨rfl, T5, hk5⟩
        have K5 : Keep NoB w w5 := hkV.trans' hk5 (fun i hi e => by rcases e with e | e <;> omega)
        have OT5 := OT.keep hk5 (fun g hg e => by rcases e with e | e; exact OT.ne T4.blk (by decide) g hg e; exact OT.ne_map T4.map g hg e)
        have OK5 := OK.keep hk5 (fun g hg e => by rcases e with e | e; exact OK.ne T4.blk (by decide) g hg e; exact OK.ne_map T4.map g hg e)
        have OS5 := OS.keep hk5 (fun g hg e => by rcases e with e | e; exact OS.ne T4.blk (by decide) g hg e; exact OS.ne_map T4.map g hg e)
        have hb5 := blk_keep HbV.out hk5 (fun e => by rcases e with e | e; exact hob1 e; exact hob2 e)
        have y1 := blk_cell hb5 1
        have y2 := blk_cell hb5 2
        have y3 := blk_lt hb5
        have Hb5 := Lib.hid hb5
        have s5 : w.heap.size ≤ w5.heap.size := K5.size
        simp at y1 y2
        clear hb5 v0 v1 v2 T4 OT OK OS hkV hk5
        go_wp2_with fail
        go_loopw [133] (fun j wx => ∃ (jn : Nat) (M : List Int), jn ≤ Sn.length ∧ j = .int .i64 jn ∧ Own wx w.heap.size 3 1 cI (.slice aS Sn.length cS') M ∧ St (strk (pKey s)) Tk Ks Sn jn M ∧ Keep (fun g => (Value.slice aS Sn.length cS').ownBlock = some g) w5 wx) (fun j _ => Sn.length - (intOf j).toNat)
        case atStart => exact ⟨0, Sn, Nat.zero_le _, rfl, OS5, st_start, Keep.refl _ _⟩
        case round =>
          obtain ⟨jn, M, hj, rfl, OM, hS, hx⟩ := hrel
          by_cases hjl : jn < Sn.length
          · obtain ⟨x, ha⟩ : ∃ x, Sn[jn]? = some x := ⟨_, List.getElem?_eq_getElem (by omega)⟩
            obtain ⟨t, hb⟩ : ∃ t, Tk[jn]? = some t := ⟨_, List.getElem?_eq_getElem (by omega)⟩
            obtain ⟨q, hc⟩ : ∃ q, Ks[jn]? = some q := ⟨_, List.getElem?_eq_getElem (by omega)⟩
            have hage := oi_age HO.out ha
            obtain ⟨hage1, hage2⟩ := hage
            have hM := st_read hS ha hb hc
            obtain ⟨g, hv, hg1, hg2, m0, m1⟩ := OM.cell1 cI_len hM rfl
            cases hv
            have HA := Lib.hid ha
            have HB := Lib.hid hb
            have HC := Lib.hid hc
            have HS := Lib.hid hS
            clear ha hb hc hM hS
            have OKx := OK5.keep hx (fun g hg e => OK5.ne_own OS5 (by decide) g hg e)
            obtain ⟨gk, hv, hk1, hk2, mk0, mk1⟩ := OKx.cell1 cS_len HC.out rfl
            cases hv
            have z1 := hx.some y1 (fun e => OS5.ne Hb5.out (by decide) _ e rfl)
            by_cases hqs : q = s
            · subst hqs
              have HS2 := Lib.hid (st_set HS.out HA.out HB.out HC.out (-1) (by simp [strk, pKey]))
              go_wp2_with fail
              go_quiet (fail)
              go_wp2_with fail
              go_roundw
              case rel => exact ⟨jn + 1, _, hjl, by go_num, (OM.keep ((Keep.refl NoB wr).drewN nq) (fun _ _ h => h)).store cI_len jn (-1) rfl, HS2.out, (hx.drewN nq).setCell (p := ⟨_, jn, none⟩) (Or.inr rfl) _⟩
              case measure => simp [intOf]; omega
            · have HS2 := Lib.hid (st_miss HS.out HA.out HB.out HC.out (by simp [strk, pKey, hqs]))
              have hsd := strNe hqs
              clear hqs
              go_wp2_with fail
              go_quiet (fail)
              go_wp2_with fail
              go_roundw
              case rel => exact ⟨jn + 1, _, hjl, by go_num, OM.keep ((Keep.refl NoB wr).drewN nq) (fun _ _ h => h), HS2.out, hx.drewN nq⟩
              case measure => simp [intOf]; omega
          · have T6 := T5.keep hx (fun e => OS5.ne T5.blk (by decide) _ e rfl) (fun e => OS5.ne_map T5.map _ e rfl)
            have OT6 := OT5.keep hx (fun g hg e => OT5.ne_own OS5 (by decide) g hg e)
            have OK6 := OK5.keep hx (fun g hg e => OK5.ne_own OS5 (by decide) g hg e)
            have K6 : Keep NoB w wr := K5.trans' hx (fun i hi e => by have := OS5.fresh _ e; omega)
            have hoi' : OI T last (ldel L (kS s)) Tk Ks M := (oi_strike HO.out hT4 (by omega) hS (kill_get L s))
            have hlf' : Lefts (ldel L (kS s)) T := (fun p hp => HLf.out p (List.mem_filter.1 hp).1)
            have Hoi' := Lib.hid hoi'
            have Hlf' := Lib.hid hlf'
            clear hS hoi' hlf'
            go_wp2_with fail
            go_roundw
            case rel => exact ⟨k + 1, hlt, h200, by go_num, ⟨⟨ldel L (kS s), last, Tk, Ks, M, T6, OT6, OK6, OM, Hoi'.out, hl0, by omega, by have := HLn.out; omega, by omega, Hlf'.out⟩⟩, K6⟩
            case measure => simp [intOf]; omega
      · as_aux_lemma =>
        have HLn := Lib.hid (tick_len L)
        have HAp := Lib.hid hapart
        clear hapart
        go_wp2_with fail
        refine (tick_any tb mb limit T last L _ T4 (by unfold maxLen; omega) (fun p hp => by have := HLf.out p hp; omega)).mono ?_
        rintro _ w5 ⟨rfl, T5, hk5⟩
        have K5 : Keep NoB w w5 := hkV.trans' hk5 (fun i hi e => by rcases e with e | e <;> omega)
        have OT5 := OT.keep hk5 (fun g hg e => by rcases e with e | e; exact OT.ne T4.blk (by decide) g hg e; exact OT.ne_map T4.map g hg e)
        have OK5 := OK.keep hk5 (fun g hg e => by rcases e with e | e; exact OK.ne T4.blk (by decide) g hg e; exact OK.ne_map T4.map g hg e)
        have OS5 := OS.keep hk5 (fun g hg e => by rcases e with e | e; exact OS.ne T4.blk (by decide) g hg e; exact OS.ne_map T4.map g hg e)
        have hb5 := blk_keep HbV.out hk5 (fun e => by rcases e with e | e; exact hob1 e; exact hob2 e)
        have y1 := blk_cell hb5 1
        have y2 := blk_cell hb5 2
        have y3 := blk_lt hb5
        have Hb5 := Lib.hid hb5
        have s5 : w.heap.size ≤ w5.heap.size := K5.size
        simp at y1 y2
        clear hb5 v0 v1 v2 T4 OT OK OS hkV hk5
        clear y1 y2
        go_wp2_with fail
        go_loopw [153] (fun j wx => ∃ (jn : Nat) (M : List Int), jn ≤ Sn.length ∧ j = .int .i64 jn ∧ Own wx w.heap.size 3 1 cI (.slice aS Sn.length cS') M ∧ St (aged T) Tk Ks Sn jn M ∧ Keep (fun g => (Value.slice aS Sn.length cS').ownBlock = some g) w5 wx) (fun j _ => Sn.length - (intOf j).toNat)
        case atStart => exact ⟨0, Sn, Nat.zero_le _, rfl, OS5, st_start, Keep.refl _ _⟩
        case round =>
          obtain ⟨jn, M, hj, rfl, OM, hS, hx⟩ := hrel
          by_cases hjl : jn < Sn.length
          · obtain ⟨x, ha⟩ : ∃ x, Sn[jn]? = some x := ⟨_, List.getElem?_eq_getElem (by omega)⟩
            obtain ⟨t, hb⟩ : ∃ t, Tk[jn]? = some t := ⟨_, List.getElem?_eq_getElem (by omega)⟩
            obtain ⟨q, hc⟩ : ∃ q, Ks[jn]? = some q := ⟨_, List.getElem?_eq_getElem (by omega)⟩
            have hage := oi_age HO.out ha
            obtain ⟨hage1, hage2⟩ := hage
            have hM := st_read hS ha hb hc
            obtain ⟨g, hv, hg1, hg2, m0, m1⟩ := OM.cell1 cI_len hM rfl
            cases hv
            have HA := Lib.hid ha
            have HB := Lib.hid hb
            have HC := Lib.hid hc
            have HS := Lib.hid hS
            clear ha hb hc hM hS
            by_cases hx0 : 0 ≤ x
            · by_cases hxT : T ≤ x + 1
              · have HS2 := Lib.hid (st_set HS.out HA.out HB.out HC.out (-1) (by simp [aged, hx0, hxT]))
                go_wp2_with fail
                go_roundw
                case rel => exact ⟨jn + 1, _, hjl, by go_num, by have := (OM.store cI_len jn (x + 1) rfl).store cI_len jn (-1) rfl; simpa using this, HS2.out, (hx.setCell (p := ⟨_, jn, none⟩) (Or.inr rfl) _).setCell (p := ⟨_, jn, none⟩) (Or.inr rfl) _⟩
                case measure => simp [intOf]; omega
              · have HS2 := Lib.hid (st_set HS.out HA.out HB.out HC.out (x + 1) (by simp [aged, hx0, hxT]))
                go_wp2_with fail
                go_roundw
                case rel => exact ⟨jn + 1, _, hjl, by go_num, OM.store cI_len jn (x + 1) rfl, HS2.out, hx.setCell (p := ⟨_, jn, none⟩) (Or.inr rfl) _⟩
                case measure => simp [intOf]; omega
            · have HS2 := Lib.hid (st_miss HS.out HA.out HB.out HC.out (by simp [aged, hx0]))
              go_wp2_with fail
              go_roundw
              case rel => exact ⟨jn + 1, _, hjl, by go_num, OM, HS2.out, hx⟩
              case measure => simp [intOf]; omega
          · have hap' := T5.map.apart law9
            have T6 := T5.keep hx (fun e => OS5.ne T5.blk (by decide) _ e rfl) (fun e => OS5.ne_map T5.map _ e rfl)
            have OT6 := OT5.keep hx (fun g hg e => OT5.ne_own OS5 (by decide) g hg e)
            have OK6 := OK5.keep hx (fun g hg e => OK5.ne_own OS5 (by decide) g hg e)
            have K6 : Keep NoB w wr := K5.trans' hx (fun i hi e => by have := OS5.fresh _ e; omega)
            have hoi' : OI T last (tickL L) Tk Ks M := (oi_tick HO.out hT4 (by omega) hS (tick_get HAp.out hap'))
            have hlf' : Lefts (tickL L) T := (fun p hp => by have := tick_lefts HLf.out p hp; omega)
            have Hoi' := Lib.hid hoi'
            have Hlf' := Lib.hid hlf'
            clear hS hoi' hlf'
            go_wp2_with fail
            go_roundw
            case rel => exact ⟨k + 1, hlt, h200, by go_num, ⟨⟨tickL L, last, Tk, Ks, M, T6, OT6, OK6, OM, Hoi'.out, hl0, by omega, by have := HLn.out; omega, by omega, Hlf'.out⟩⟩, K6⟩
            case measure => simp [intOf]; omega
      · as_aux_lemma =>
        have HLn := Lib.hid (show ([] : LL).length ≤ L.length from Nat.zero_le _)
        go_wp2_with fail
        refine (clear_any tb mb limit T last L _ T4).mono ?_
        rintro _ w5 ⟨rfl, T5, hk5⟩
        have K5 : Keep NoB w w5 := hkV.trans' hk5 (fun i hi e => by rcases e with e | e <;> omega)
        have OT5 := OT.keep hk5 (fun g hg e => by rcases e with e | e; exact OT.ne T4.blk (by decide) g hg e; exact OT.ne_map T4.map g hg e)
        have OK5 := OK.keep hk5 (fun g hg e => by rcases e with e | e; exact OK.ne T4.blk (by decide) g hg e; exact OK.ne_map T4.map g hg e)
        have OS5 := OS.keep hk5 (fun g hg e => by rcases e with e | e; exact OS.ne T4.blk (by decide) g hg e; exact OS.ne_map T4.map g hg e)
        have hb5 := blk_keep HbV.out hk5 (fun e => by rcases e with e | e; exact hob1 e; exact hob2 e)
        have y1 := blk_cell hb5 1
        have y2 := blk_cell hb5 2
        have y3 := blk_lt hb5
        have Hb5 := Lib.hid hb5
        have s5 : w.heap.size ≤ w5.heap.size := K5.size
        simp at y1 y2
        clear hb5 v0 v1 v2 T4 OT OK OS hkV hk5
        go_wp2_with fail
        go_loopw [183] (fun j wx => ∃ (jn : Nat) (M : List Int), jn ≤ Sn.length ∧ j = .int .i64 jn ∧ Own wx w.heap.size 3 1 cI (.slice aS Sn.length cS') M ∧ St (strk pAll) Tk Ks Sn jn M ∧ Keep (fun g => (Value.slice aS Sn.length cS').ownBlock = some g) w5 wx) (fun j _ => Sn.length - (intOf j).toNat)
        case atStart => exact ⟨0, Sn, Nat.zero_le _, rfl, OS5, st_start, Keep.refl _ _⟩
        case round =>
          obtain ⟨jn, M, hj, rfl, OM, hS, hx⟩ := hrel
          by_cases hjl : jn < Sn.length
          · obtain ⟨x, ha⟩ : ∃ x, Sn[jn]? = some x := ⟨_, List.getElem?_eq_getElem (by omega)⟩
            obtain ⟨t, hb⟩ : ∃ t, Tk[jn]? = some t := ⟨_, List.getElem?_eq_getElem (by omega)⟩
            obtain ⟨q, hc⟩ : ∃ q, Ks[jn]? = some q := ⟨_, List.getElem?_eq_getElem (by omega)⟩
            have hage := oi_age HO.out ha
            obtain ⟨hage1, hage2⟩ := hage
            have hM := st_read hS ha hb hc
            obtain ⟨g, hv, hg1, hg2, m0, m1⟩ := OM.cell1 cI_len hM rfl
            cases hv
            have HA := Lib.hid ha
            have HB := Lib.hid hb
            have HC := Lib.hid hc
            have HS := Lib.hid hS
            clear ha hb hc hM hS
            have HS2 := Lib.hid (st_set HS.out HA.out HB.out HC.out (-1) rfl)
            go_wp2_with fail
            go_roundw
            case rel => exact ⟨jn + 1, _, hjl, by go_num, OM.store cI_len jn (-1) rfl, HS2.out, hx.setCell (p := ⟨_, jn, none⟩) (Or.inr rfl) _⟩
            case measure => simp [intOf]; omega
          · have T6 := T5.keep hx (fun e => OS5.ne T5.blk (by decide) _ e rfl) (fun e => OS5.ne_map T5.map _ e rfl)
            have OT6 := OT5.keep hx (fun g hg e => OT5.ne_own OS5 (by decide) g hg e)
            have OK6 := OK5.keep hx (fun g hg e => OK5.ne_own OS5 (by decide) g hg e)
            have K6 : Keep NoB w wr := K5.trans' hx (fun i hi e => by have := OS5.fresh _ e; omega)
            have hoi' : OI T last (([] : LL)) Tk Ks M := (oi_strike HO.out hT4 (by omega) hS (clear_get L))
            have hlf' : Lefts (([] : LL)) T := (fun p hp => by simp at hp)
            have Hoi' := Lib.hid hoi'
            have Hlf' := Lib.hid hlf'
            clear hS hoi' hlf'
            go_wp2_with fail
            go_roundw
            case rel => exact ⟨k + 1, hlt, h200, by go_num, ⟨⟨([] : LL), last, Tk, Ks, M, T6, OT6, OK6, OM, Hoi'.out, hl0, by omega, by have := HLn.out; omega, by omega, Hlf'.out⟩⟩, K6⟩
            case measure => simp [intOf]; omega
      · as_aux_lemma =>
        go_wp2_with fail
        go_roundw
        case rel => exact ⟨k + 1, hlt, h200, by go_num, ⟨⟨L, last, Tk, Ks, Sn, T4, OT, OK, OS, HO.out, hl0, by omega, by omega, by omega, HLf.out⟩⟩, hkV⟩
        case measure => simp [intOf]; omega
    · have hout : (¬ k < len0 ∧ decide ((k : Int) < (len0 : Int)) = false) ∨ (k < len0 ∧ ¬ k < 200 ∧ decide ((k : Int) < 200) = false) := by
        by_cases h1 : k < len0
        · right
          have : ¬ k < 200 := fun h => hgo ⟨h1, h⟩
          exact ⟨h1, this, by simp; omega⟩
        · left
          exact ⟨h1, by simp; omega⟩
      clear hgo hB
      rcases hout with ⟨h1, hd⟩ | ⟨h1, h2, hd⟩
      all_goals
        go_wp2
        go_ret
        exact ⟨rfl, hk.below (fun _ _ h => h)⟩
end Go.Proofs.Ytmndmgfianhbpaa
