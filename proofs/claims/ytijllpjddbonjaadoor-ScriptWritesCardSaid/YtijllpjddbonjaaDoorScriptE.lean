/- What Byte, Encode and Same come to. -/
import Derived.Test.YtijllpjddbonjaaDoorScriptA
import Derived.Laws.BytesArg
import Derived.Laws.IdiomStrings
namespace Go.Proofs.YtijllpjddbonjaaDoor
open Go Go.RowKit Go.Maps

def b8 (n : Int) : UInt8 := UInt8.ofNat (n % 256).toNat
theorem b8_nat (n : Int) : ((b8 n).toNat : Int) = n % 256 := by
  unfold b8
  simp
  omega
def e4 (x : SOp) : List UInt8 := [b8 x.1, b8 x.2.1, b8 x.2.2.1, b8 x.2.2.2]
theorem e4_len (x : SOp) : (e4 x).length = 4 := rfl
def encL (N : List SOp) : List UInt8 := N.flatMap e4
theorem encL_len (N : List SOp) : (encL N).length = N.length * 4 := by
  unfold encL
  induction N with
  | nil => rfl
  | cons x N ih => simp [ih, e4_len]; omega
theorem take_one {α : Type} {N : List α} {k : Nat} {x : α} (hx : N[k]? = some x) : N.take (k + 1) = N.take k ++ [x] := by
  obtain ⟨h, e⟩ := List.getElem?_eq_some_iff.1 hx
  rw [List.take_succ_eq_append_getElem h, e]
theorem encL_take {N : List SOp} {k : Nat} {x : SOp} (hx : N[k]? = some x) : encL (N.take (k + 1)) = encL (N.take k) ++ e4 x := by
  rw [take_one hx]
  simp [encL]
theorem flat_cU (l : List UInt8) : l.flatMap cU = l.map (fun b => Value.int .u8 b.toNat) := by
  induction l with
  | nil => rfl
  | cons x l ih => simp [cU, ih]

theorem byte_any (n : Int) (hn : I64 n) (w : World) : Calls Tryd.prog 19 #[.int .i64 n] w fun e w' => e = .returned (.int .u8 (b8 n).toNat) ∧ w' = w := by
  obtain ⟨m, hm⟩ : ∃ m, n.tmod 256 = m := ⟨_, rfl⟩
  have hmm : (0 ≤ n ∧ m = n % 256) ∨ (n < 0 ∧ m = -((-n) % 256)) := by
    by_cases h : 0 ≤ n
    · exact Or.inl ⟨h, by rw [← hm, Int.tmod_eq_emod_of_nonneg h]⟩
    · refine Or.inr ⟨by omega, ?_⟩
      rw [← Int.tmod_eq_emod_of_nonneg (by omega : 0 ≤ -n), Int.neg_tmod, Int.neg_neg, hm]
  have hb := b8_nat n
  obtain ⟨k, hk⟩ : ∃ k, ((b8 n).toNat : Int) = k := ⟨_, rfl⟩
  rw [hk] at hb ⊢
  have hc : (decide (m < 0) = true ∧ m + 256 = k ∧ -256 ≤ m ∧ m < 0) ∨ (decide (m < 0) = false ∧ m = k) := by
    by_cases h : m < 0
    · exact Or.inl ⟨decide_eq_true h, by omega, by omega, h⟩
    · exact Or.inr ⟨decide_eq_false h, by omega⟩
  have hk0 : 0 ≤ k ∧ k ≤ 255 := by omega
  have hw : IntKind.u8.wrap k = k := by rw [IntKind.wrap_u8]; omega
  clear hmm hb hk hn
  rcases hc with ⟨hd, e, e1, e2⟩ | ⟨hd, e⟩
  · have e3 : IntKind.i64.wrap (m + 256) = k := by rw [IntKind.wrap_i64]; omega
    go_enter Tryd.func19, Tryd.ntmps19
    go_wp2
    go_ret
    exact ⟨rfl, rfl⟩
  · subst e
    go_enter Tryd.func19, Tryd.ntmps19
    go_wp2
    go_ret
    exact ⟨rfl, rfl⟩

def BytesPost (L : List UInt8) (w : World) (r : Ending) (w' : World) : Prop :=
  ∃ a' c', r = .returned (.slice a' L.length c') ∧ Own w' w.heap.size 5 1 cU (.slice a' L.length c') L ∧ Keep NoB w w'

theorem wrap_b8 (n : Int) : IntKind.u8.wrap n = ((b8 n).toNat : Int) := by rw [b8_nat, IntKind.wrap_u8]
theorem news4 {w : World} {nb : Nat} {x : SOp} (h : w.heap[nb]? = some (.cells #[.int .u8 (b8 x.1).toNat, .int .u8 (b8 x.2.1).toNat, .int .u8 (b8 x.2.2.1).toNat, .int .u8 (b8 x.2.2.2).toNat] 5 (0, 0))) :
    ∀ j u, ((e4 x).flatMap cU)[j]? = some u → w.cell? ((⟨nb, 0, none⟩ : Addr).add j) = some u := by
  intro j u hu
  have hadd : (⟨nb, 0, none⟩ : Addr).add j = ⟨nb, j, none⟩ := by unfold Addr.add; split <;> simp_all
  rw [hadd, blk_cell h, ← hu]
  simp [e4, cU]

set_option maxHeartbeats 4000000 in
theorem enc_any (B : Nat) (a : Option Addr) (c : Nat) (N : List SOp) (w : World) (h : Own w B 29 4 encOp (.slice a N.length c) N) (hN : N.length ≤ 20000) (L : List UInt8) (hL : encL N = L) :
    Calls Tryd.prog 14 #[.slice a N.length c] w (BytesPost L w) := by
  have HL := Lib.hid hL
  clear hL
  go_enter Tryd.func14, Tryd.ntmps14
  go_wp2_with fail
  go_loopw [3, 8] (fun o iv wr => ∃ (m : Nat) (M : List UInt8) (a' : Option Addr) (c' : Nat), m ≤ N.length ∧ iv = .int .i64 (m : Int) ∧ o = .slice a' M.length c' ∧ Own wr w.heap.size 5 1 cU (.slice a' M.length c') M ∧ encL (N.take m) = M ∧ Keep NoB w wr) (fun _ iv _ => N.length - (intOf iv).toNat)
  case atStart => exact ⟨0, [], none, 0, Nat.zero_le _, rfl, rfl, Own.nil _ _ _ _ _, rfl, Keep.refl _ _⟩
  case round =>
    obtain ⟨m, M, a', c', hm, rfl, rfl, O, hM, kr⟩ := hrel
    have HMl := Lib.hid (show M.length = m * 4 by rw [← hM, encL_len, List.length_take, Nat.min_eq_left hm])
    have HM := Lib.hid hM
    clear hM
    by_cases hml : m < N.length
    · obtain ⟨x, hx⟩ : ∃ x, N[m]? = some x := ⟨_, List.getElem?_eq_getElem hml⟩
      obtain ⟨g, cc, hv, _, hg, hc⟩ := (h.keep kr (fun _ _ h => h)).cells encOp_len hx
      cases hv
      have hM' := encL_take hx
      rw [HM.out] at hM'
      obtain ⟨M', hM''⟩ : ∃ l, M ++ e4 x = l := ⟨_, rfl⟩
      rw [hM''] at hM'
      have HM' := Lib.hid hM'
      have HM'' := Lib.hid hM''
      obtain ⟨x0, x1, x2, x3⟩ := x
      have m0 := hc 0 _ rfl
      have m1 := hc 1 _ rfl
      have m2 := hc 2 _ rfl
      have m3 := hc 3 _ rfl
      simp only [Nat.add_zero] at m0
      have e0 := wrap_b8 x0
      have e1 := wrap_b8 x1
      have e2 := wrap_b8 x2
      have e3 := wrap_b8 x3
      have hlen : M.length + 4 ≤ 100000 := by have := HMl.out; omega
      have ka : Keep NoB wr ((wr.alloc (.cells #[.int .i64 x0, .int .i64 x1, .int .i64 x2, .int .i64 x3] 29)).alloc (.cells #[.int .u8 (b8 x0).toNat, .int .u8 (b8 x1).toNat, .int .u8 (b8 x2).toNat, .int .u8 (b8 x3).toNat] 5)) := ((Keep.refl NoB wr).alloc _).alloc _
      have Ka := kr.trans ka
      have sa := Ka.size
      have Oa := O.keep ka (fun _ _ h => h)
      have ba := blk_new (wr.alloc (.cells #[.int .i64 x0, .int .i64 x1, .int .i64 x2, .int .i64 x3] 29)) (.cells #[.int .u8 (b8 x0).toNat, .int .u8 (b8 x1).toNat, .int .u8 (b8 x2).toNat, .int .u8 (b8 x3).toNat] 5)
      have Hka := Lib.hid Ka
      have Hsa := Lib.hid sa
      have HOa := Lib.hid Oa
      have Hba := Lib.hid (news4 (x := (x0, x1, x2, x3)) ba)
      clear hc hx ka Ka sa Oa ba O hM' hM''
      go_wp2_with (first
        | (at_builtin
           refine wpList_append_list rfl (.tmp 12) (.tmp 25) 22 rfl Tryd.underlying22 info5' (by kernel_rfl) (by decide) (by decide) rfl HOa.out cU_len cU_one (e4 (x0, x1, x2, x3)) (ad := ⟨(wr.alloc (.cells #[.int .i64 x0, .int .i64 x1, .int .i64 x2, .int .i64 x3] 29)).heap.size, 0, none⟩) (m := 4) (c := 4) (by simp; rfl) rfl Hba.out (by simp [e4_len]; omega) Hsa.out HM''.out ?_
           intro a4 c4 w4 O4 k4))
      have K4 := HOa.out.knob Hka.out k4
      go_roundw
      case rel => exact ⟨m + 1, M', a4, c4, hml, by go_num, rfl, O4, HM'.out, K4⟩
      case measure => simp [intOf]; omega
    · have hd2 : decide ((m : Int) < (N.length : Int)) = false := decide_eq_false (by omega)
      have hML : M = L := by rw [← HM.out, ← HL.out, List.take_of_length_le (by omega)]
      subst hML
      go_wp2
      go_ret
      exact ⟨a', c', rfl, O, kr⟩

/-- A slice of ops that came in. -/
def IsOps (w : World) (a : Option Addr) (n : Nat) (z : Nat → SOp) : Prop :=
  n ≤ maxLen ∧ (∀ i, i < n → I64 (z i).1 ∧ I64 (z i).2.1 ∧ I64 (z i).2.2.1 ∧ I64 (z i).2.2.2) ∧
    (n = 0 ∨ ∃ b off, a = some ⟨b, off, none⟩ ∧ b < w.heap.size ∧ ∀ i, i < n → w.cell? ⟨b, off + i * 4, none⟩ = some (.int .i64 (z i).1) ∧ w.cell? ⟨b, off + i * 4 + 1, none⟩ = some (.int .i64 (z i).2.1) ∧ w.cell? ⟨b, off + i * 4 + 2, none⟩ = some (.int .i64 (z i).2.2.1) ∧ w.cell? ⟨b, off + i * 4 + 3, none⟩ = some (.int .i64 (z i).2.2.2))
def opsL (z : Nat → SOp) (k : Nat) : List SOp := (List.range k).map z
theorem opsL_succ (z : Nat → SOp) (k : Nat) : opsL z (k + 1) = opsL z k ++ [z k] := by simp [opsL, List.range_succ]
theorem opsL_len (z : Nat → SOp) (k : Nat) : (opsL z k).length = k := by simp [opsL]
theorem encL_add (N : List SOp) (x : SOp) : encL (N ++ [x]) = encL N ++ e4 x := by simp [encL]

set_option maxHeartbeats 4000000 in
theorem renc_any (a : Option Addr) (n cap : Nat) (z : Nat → SOp) (w : World) (h : IsOps w a n z) (hn : n ≤ 20000) (L : List UInt8) (hL : encL (opsL z n) = L) :
    Calls Tryd.prog 16 #[.slice a n cap] w (BytesPost L w) := by
  have HL := Lib.hid hL
  have Hh := Lib.hid h
  have O0 := Own.empty w (Nat.le_refl _) 5 1 cU
  have HO0 := Lib.hid O0
  clear hL h O0
  go_enter Tryd.func16, Tryd.ntmps16
  go_wp2_with fail
  go_loopw [3, 4] (fun o iv wr => ∃ (m : Nat) (M : List UInt8) (a' : Option Addr) (c' : Nat), m ≤ n ∧ iv = .int .i64 (m : Int) ∧ o = .slice a' M.length c' ∧ Own wr w.heap.size 5 1 cU (.slice a' M.length c') M ∧ encL (opsL z m) = M ∧ Keep NoB w wr) (fun _ iv _ => n - (intOf iv).toNat)
  case atStart => exact ⟨0, [], _, 0, Nat.zero_le _, rfl, rfl, HO0.out, rfl, (Keep.refl NoB w).alloc _⟩
  case round =>
    obtain ⟨m, M, a', c', hm, rfl, rfl, O, hM, kr⟩ := hrel
    have HMl := Lib.hid (show M.length = m * 4 by rw [← hM, encL_len, opsL_len])
    have HM := Lib.hid hM
    clear hM
    by_cases hml : m < n
    · obtain ⟨_, hok, hrow⟩ := Hh.out
      rcases hrow with h0 | ⟨b, off, rfl, hb, hc⟩
      · omega
      obtain ⟨m0, m1, m2, m3⟩ := hc m hml
      obtain ⟨i0, i1, i2, i3⟩ := hok m hml
      have hM' : encL (opsL z (m + 1)) = M ++ e4 (z m) := by rw [opsL_succ, encL_add, HM.out]
      generalize z m = x at m0 m1 m2 m3 i0 i1 i2 i3 hM'
      obtain ⟨M', hM''⟩ : ∃ l, M ++ e4 x = l := ⟨_, rfl⟩
      rw [hM''] at hM'
      have HM' := Lib.hid hM'
      have HM'' := Lib.hid hM''
      obtain ⟨x0, x1, x2, x3⟩ := x
      simp only at m0 m1 m2 m3 i0 i1 i2 i3
      have HS0 := Lib.hid (⟨m0, m1, m2, m3⟩ : w.cell? ⟨b, off + m * 4, none⟩ = some (.int .i64 x0) ∧ w.cell? ⟨b, off + m * 4 + 1, none⟩ = some (.int .i64 x1) ∧ w.cell? ⟨b, off + m * 4 + 2, none⟩ = some (.int .i64 x2) ∧ w.cell? ⟨b, off + m * 4 + 3, none⟩ = some (.int .i64 x3))
      have hlen : M.length + 4 ≤ 100000 := by have := HMl.out; omega
      clear hc hok m0 m1 m2 m3 hM' hM''
      go_wp2_with fail
      refine wp_region_pl (fun u => u.cell? ⟨b, off + m * 4, none⟩ = some (.int .i64 x0) ∧ u.cell? ⟨b, off + m * 4 + 1, none⟩ = some (.int .i64 x1) ∧ u.cell? ⟨b, off + m * 4 + 2, none⟩ = some (.int .i64 x2) ∧ u.cell? ⟨b, off + m * 4 + 3, none⟩ = some (.int .i64 x3)) [] (.rd 0 (.rd 1 (.rd 2 (.rd 3 (.rd 4 (.rd 5 (.rd 7 (.rd 8 (.rd 9 (.rd 10 (.rd 11 (.rd 13 (.rd 14 (.rd 15 (.rd 16 (.rd 17 (.rd 19 (.rd 20 (.rd 21 (.rd 22 (.rd 23 (.one 6 (.one 12 (.one 18 (.one 24 (.one 25 (.one 26 (.one 27 .done)))))))))))))))))))))))))))) (by kernel_rfl) (by kernel_rfl) (by kernel_rfl) (by kernel_rfl) (by intro c b d v u h; cases d <;> exact h) ?_
      have ky : Keep NoB wr wr.drew := (Keep.refl NoB wr).drew
      generalize wr.drew = wy at ky ⊢
      have Oy := O.keep ky (fun _ _ h => h)
      have Ky := kr.trans ky
      have HS := Lib.hid (ks4 HS0.out Ky)
      have hsz := Ky.size
      have hbl := Nat.lt_of_lt_of_le hb hsz
      clear O kr
      first
        | refine pl_get (i := 0) rfl rfl HS.out rfl (fun u hu => by (try dsimp only at hu); go_simp; rfl) (by simp only [List.setIfInBounds_toArray, List.set_cons_succ, List.set_cons_zero]; rfl) ?_
        | refine pl_skip (i := 0) rfl rfl HS.out rfl (by simp only [List.setIfInBounds_toArray, List.set_cons_succ, List.set_cons_zero]; rfl) ?_
      first
        | refine pl_get (i := 1) rfl rfl HS.out rfl (fun u hu => by (try dsimp only at hu); go_simp; rfl) (by simp only [List.setIfInBounds_toArray, List.set_cons_succ, List.set_cons_zero]; rfl) ?_
        | refine pl_skip (i := 1) rfl rfl HS.out rfl (by simp only [List.setIfInBounds_toArray, List.set_cons_succ, List.set_cons_zero]; rfl) ?_
      first
        | refine pl_get (i := 2) rfl rfl HS.out rfl (fun u hu => by (try dsimp only at hu); go_simp; rfl) (by simp only [List.setIfInBounds_toArray, List.set_cons_succ, List.set_cons_zero]; rfl) ?_
        | refine pl_skip (i := 2) rfl rfl HS.out rfl (by simp only [List.setIfInBounds_toArray, List.set_cons_succ, List.set_cons_zero]; rfl) ?_
      first
        | refine pl_get (i := 3) rfl rfl HS.out rfl (fun u hu => by (try dsimp only at hu); go_simp; rfl) (by simp only [List.setIfInBounds_toArray, List.set_cons_succ, List.set_cons_zero]; rfl) ?_
        | refine pl_skip (i := 3) rfl rfl HS.out rfl (by simp only [List.setIfInBounds_toArray, List.set_cons_succ, List.set_cons_zero]; rfl) ?_
      first
        | refine pl_get (i := 4) rfl rfl HS.out rfl (fun u hu => by (try dsimp only at hu); go_simp; rfl) (by simp only [List.setIfInBounds_toArray, List.set_cons_succ, List.set_cons_zero]; rfl) ?_
        | refine pl_skip (i := 4) rfl rfl HS.out rfl (by simp only [List.setIfInBounds_toArray, List.set_cons_succ, List.set_cons_zero]; rfl) ?_
      first
        | refine pl_get (i := 5) rfl rfl HS.out rfl (fun u hu => by (try dsimp only at hu); go_simp; rfl) (by simp only [List.setIfInBounds_toArray, List.set_cons_succ, List.set_cons_zero]; rfl) ?_
        | refine pl_skip (i := 5) rfl rfl HS.out rfl (by simp only [List.setIfInBounds_toArray, List.set_cons_succ, List.set_cons_zero]; rfl) ?_
      first
        | refine pl_get (i := 7) rfl rfl HS.out rfl (fun u hu => by (try dsimp only at hu); go_simp; rfl) (by simp only [List.setIfInBounds_toArray, List.set_cons_succ, List.set_cons_zero]; rfl) ?_
        | refine pl_skip (i := 7) rfl rfl HS.out rfl (by simp only [List.setIfInBounds_toArray, List.set_cons_succ, List.set_cons_zero]; rfl) ?_
      first
        | refine pl_get (i := 8) rfl rfl HS.out rfl (fun u hu => by (try dsimp only at hu); go_simp; rfl) (by simp only [List.setIfInBounds_toArray, List.set_cons_succ, List.set_cons_zero]; rfl) ?_
        | refine pl_skip (i := 8) rfl rfl HS.out rfl (by simp only [List.setIfInBounds_toArray, List.set_cons_succ, List.set_cons_zero]; rfl) ?_
      first
        | refine pl_get (i := 9) rfl rfl HS.out rfl (fun u hu => by (try dsimp only at hu); go_simp; rfl) (by simp only [List.setIfInBounds_toArray, List.set_cons_succ, List.set_cons_zero]; rfl) ?_
        | refine pl_skip (i := 9) rfl rfl HS.out rfl (by simp only [List.setIfInBounds_toArray, List.set_cons_succ, List.set_cons_zero]; rfl) ?_
      first
        | refine pl_get (i := 10) rfl rfl HS.out rfl (fun u hu => by (try dsimp only at hu); go_simp; rfl) (by simp only [List.setIfInBounds_toArray, List.set_cons_succ, List.set_cons_zero]; rfl) ?_
        | refine pl_skip (i := 10) rfl rfl HS.out rfl (by simp only [List.setIfInBounds_toArray, List.set_cons_succ, List.set_cons_zero]; rfl) ?_
      first
        | refine pl_get (i := 11) rfl rfl HS.out rfl (fun u hu => by (try dsimp only at hu); go_simp; rfl) (by simp only [List.setIfInBounds_toArray, List.set_cons_succ, List.set_cons_zero]; rfl) ?_
        | refine pl_skip (i := 11) rfl rfl HS.out rfl (by simp only [List.setIfInBounds_toArray, List.set_cons_succ, List.set_cons_zero]; rfl) ?_
      first
        | refine pl_get (i := 13) rfl rfl HS.out rfl (fun u hu => by (try dsimp only at hu); go_simp; rfl) (by simp only [List.setIfInBounds_toArray, List.set_cons_succ, List.set_cons_zero]; rfl) ?_
        | refine pl_skip (i := 13) rfl rfl HS.out rfl (by simp only [List.setIfInBounds_toArray, List.set_cons_succ, List.set_cons_zero]; rfl) ?_
      first
        | refine pl_get (i := 14) rfl rfl HS.out rfl (fun u hu => by (try dsimp only at hu); go_simp; rfl) (by simp only [List.setIfInBounds_toArray, List.set_cons_succ, List.set_cons_zero]; rfl) ?_
        | refine pl_skip (i := 14) rfl rfl HS.out rfl (by simp only [List.setIfInBounds_toArray, List.set_cons_succ, List.set_cons_zero]; rfl) ?_
      first
        | refine pl_get (i := 15) rfl rfl HS.out rfl (fun u hu => by (try dsimp only at hu); go_simp; rfl) (by simp only [List.setIfInBounds_toArray, List.set_cons_succ, List.set_cons_zero]; rfl) ?_
        | refine pl_skip (i := 15) rfl rfl HS.out rfl (by simp only [List.setIfInBounds_toArray, List.set_cons_succ, List.set_cons_zero]; rfl) ?_
      first
        | refine pl_get (i := 16) rfl rfl HS.out rfl (fun u hu => by (try dsimp only at hu); go_simp; rfl) (by simp only [List.setIfInBounds_toArray, List.set_cons_succ, List.set_cons_zero]; rfl) ?_
        | refine pl_skip (i := 16) rfl rfl HS.out rfl (by simp only [List.setIfInBounds_toArray, List.set_cons_succ, List.set_cons_zero]; rfl) ?_
      first
        | refine pl_get (i := 17) rfl rfl HS.out rfl (fun u hu => by (try dsimp only at hu); go_simp; rfl) (by simp only [List.setIfInBounds_toArray, List.set_cons_succ, List.set_cons_zero]; rfl) ?_
        | refine pl_skip (i := 17) rfl rfl HS.out rfl (by simp only [List.setIfInBounds_toArray, List.set_cons_succ, List.set_cons_zero]; rfl) ?_
      first
        | refine pl_get (i := 19) rfl rfl HS.out rfl (fun u hu => by (try dsimp only at hu); go_simp; rfl) (by simp only [List.setIfInBounds_toArray, List.set_cons_succ, List.set_cons_zero]; rfl) ?_
        | refine pl_skip (i := 19) rfl rfl HS.out rfl (by simp only [List.setIfInBounds_toArray, List.set_cons_succ, List.set_cons_zero]; rfl) ?_
      first
        | refine pl_get (i := 20) rfl rfl HS.out rfl (fun u hu => by (try dsimp only at hu); go_simp; rfl) (by simp only [List.setIfInBounds_toArray, List.set_cons_succ, List.set_cons_zero]; rfl) ?_
        | refine pl_skip (i := 20) rfl rfl HS.out rfl (by simp only [List.setIfInBounds_toArray, List.set_cons_succ, List.set_cons_zero]; rfl) ?_
      first
        | refine pl_get (i := 21) rfl rfl HS.out rfl (fun u hu => by (try dsimp only at hu); go_simp; rfl) (by simp only [List.setIfInBounds_toArray, List.set_cons_succ, List.set_cons_zero]; rfl) ?_
        | refine pl_skip (i := 21) rfl rfl HS.out rfl (by simp only [List.setIfInBounds_toArray, List.set_cons_succ, List.set_cons_zero]; rfl) ?_
      first
        | refine pl_get (i := 22) rfl rfl HS.out rfl (fun u hu => by (try dsimp only at hu); go_simp; rfl) (by simp only [List.setIfInBounds_toArray, List.set_cons_succ, List.set_cons_zero]; rfl) ?_
        | refine pl_skip (i := 22) rfl rfl HS.out rfl (by simp only [List.setIfInBounds_toArray, List.set_cons_succ, List.set_cons_zero]; rfl) ?_
      first
        | refine pl_get (i := 23) rfl rfl HS.out rfl (fun u hu => by (try dsimp only at hu); go_simp; rfl) (by simp only [List.setIfInBounds_toArray, List.set_cons_succ, List.set_cons_zero]; rfl) ?_
        | refine pl_skip (i := 23) rfl rfl HS.out rfl (by simp only [List.setIfInBounds_toArray, List.set_cons_succ, List.set_cons_zero]; rfl) ?_
      refine pl_one (i := 6) rfl ?_
      go_wp2_with ((go_at_call 19; refine (byte_any x0 i0 _).mono ?_; rintro _ wy ⟨rfl, rfl⟩))
      refine pl_next (fun _ => HS.out) ?_
      refine pl_one (i := 12) rfl ?_
      go_wp2_with ((go_at_call 19; refine (byte_any x1 i1 _).mono ?_; rintro _ wy ⟨rfl, rfl⟩))
      refine pl_next (fun _ => HS.out) ?_
      refine pl_one (i := 18) rfl ?_
      go_wp2_with ((go_at_call 19; refine (byte_any x2 i2 _).mono ?_; rintro _ wy ⟨rfl, rfl⟩))
      refine pl_next (fun _ => HS.out) ?_
      refine pl_one (i := 24) rfl ?_
      go_wp2_with ((go_at_call 19; refine (byte_any x3 i3 _).mono ?_; rintro _ wy ⟨rfl, rfl⟩))
      refine pl_next (fun _ => HS.out) ?_
      refine pl_one (i := 25) rfl ?_
      go_wp2_with (fail)
      have kz := (Keep.refl NoB wy).alloc (.cells #[.int .u8 (b8 x0).toNat, .int .u8 (b8 x1).toNat, .int .u8 (b8 x2).toNat, .int .u8 (b8 x3).toNat] 5)
      have bz := blk_new wy (.cells #[.int .u8 (b8 x0).toNat, .int .u8 (b8 x1).toNat, .int .u8 (b8 x2).toNat, .int .u8 (b8 x3).toNat] 5)
      generalize World.alloc wy _ = wz at kz bz ⊢
      generalize wy.heap.size = nb at bz ⊢
      have Kz := Ky.trans kz
      have HS2 := Lib.hid (ks4 HS0.out Kz)
      refine pl_next (fun _ => HS2.out) ?_
      have sz := Kz.size
      have Oz := Oy.keep kz (fun _ _ h => h)
      refine pl_one (i := 26) rfl ?_
      refine wpList_append_list rfl (.tmp 12) (.tmp 37) 22 rfl Tryd.underlying22 info5' (by kernel_rfl) (by decide) (by decide) rfl Oz cU_len cU_one (e4 (x0, x1, x2, x3)) (ad := ⟨nb, 0, none⟩) (m := 4) (c := 4) rfl rfl (news4 bz) (by simp [e4_len]; omega) sz HM''.out ?_
      intro a4 c4 w4 O4 k4
      have K4 := Oz.knob Kz k4
      have HS3 := Lib.hid (ks4 HS0.out K4)
      refine pl_next (fun _ => HS3.out) ?_
      clear k4 Oz Kz HS2 HS Oy Ky bz kz ky
      refine pl_one (i := 27) rfl ?_
      go_wp2_with (fail)
      refine pl_next (fun _ => HS3.out) ?_
      refine pl_done ?_
      go_wp2_with fail
      go_roundw
      case rel => exact ⟨m + 1, M', a4, c4, hml, by go_num, rfl, O4, HM'.out, K4⟩
      case measure => simp [intOf]; omega
    · have hd2 : decide ((m : Int) < (n : Int)) = false := decide_eq_false (by omega)
      have hML : M = L := by rw [← HM.out, ← HL.out, show n = m by omega]
      subst hML
      go_wp2
      go_ret
      exact ⟨a', c', rfl, O, kr⟩

/-- A slice of one's own of bytes, as a text. -/
theorem own_str {w : World} {B : Nat} {a : Option Addr} {c : Nat} {L : List UInt8} (h : Own w B 5 1 cU (.slice a L.length c) L) : (convert 22 9 (.slice a L.length c)).run Tryd.prog w = .ok (.string ⟨L.toArray⟩) w := by
  rcases L with _ | ⟨x, r⟩
  · cases a with
    | none => exact run_convert_bytes_nil w 22 5 Tryd.underlying22 Tryd.underlying5 _ _ 9 Tryd.underlying9
    | some ad => exact run_convert_bytes_back w 22 9 5 ad c [] Tryd.underlying22 Tryd.underlying5 Tryd.underlying9 (fun j hj => by simp at hj)
  · obtain ⟨g, rfl, _, _⟩ := h.some (by simp)
    refine run_convert_bytes_back w 22 9 5 ⟨g, 0, none⟩ c (x :: r) Tryd.underlying22 Tryd.underlying5 Tryd.underlying9 (fun j hj => ?_)
    obtain ⟨g', c', hv, _, _, hc⟩ := h.cells cU_len (List.getElem?_eq_getElem hj)
    cases hv
    have hadd : (⟨g, 0, none⟩ : Addr).add j = ⟨g, j, none⟩ := by unfold Addr.add; split <;> simp_all
    rw [hadd]
    simpa using hc 0 _ rfl

theorem same_any (B1 B2 : Nat) (a1 a2 : Option Addr) (c1 c2 : Nat) (L : List UInt8) (w : World) (h1 : Own w B1 5 1 cU (.slice a1 L.length c1) L) (h2 : Own w B2 5 1 cU (.slice a2 L.length c2) L) :
    Calls Tryd.prog 15 #[.slice a1 L.length c1, .slice a2 L.length c2] w fun e w' => e = .returned (.bool true) ∧ w' = w := by
  have s1 := own_str h1
  have s2 := own_str h2
  clear h1 h2
  go_enter Tryd.func15, Tryd.ntmps15
  go_wp2
  go_ret
  exact ⟨rfl, rfl⟩
end Go.Proofs.YtijllpjddbonjaaDoor
