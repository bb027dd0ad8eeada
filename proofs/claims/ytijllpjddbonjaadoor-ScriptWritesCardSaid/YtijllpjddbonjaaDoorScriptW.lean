/- What Decode of package script comes to. -/
import Derived.Test.YtijllpjddbonjaaDoorRows
import Derived.Test.YtijllpjddbonjaaDoorLibOwn
import Derived.Test.YtijllpjddbonjaaDoorLibKs
import Derived.Test.YtijllpjddbonjaaDoorLibReg2
import Derived.Deep.Cut
namespace Go.Proofs.YtijllpjddbonjaaDoor
open Go Go.RowKit Go.Maps

def cU (b : UInt8) : List Value := [.int .u8 b.toNat]
theorem cU_len (b : UInt8) : (cU b).length = 1 := rfl
theorem cU_one (b : UInt8) : ∀ u ∈ cU b, u.oneCell' = true := by intro u hu; simp [cU] at hu; subst hu; rfl
theorem info5' : (Tryd.prog.info? 5).map (fun i => (i.zero, i.size, i.bytes)) = some (some (.int .u8 0), 1, 1) := by kernel_rfl

abbrev SOp := Int × Int × Int × Int
def encOp (x : SOp) : List Value := [.int .i64 x.1, .int .i64 x.2.1, .int .i64 x.2.2.1, .int .i64 x.2.2.2]
theorem encOp_len (x : SOp) : (encOp x).length = 4 := rfl
theorem encOp_one (x : SOp) : ∀ u ∈ encOp x, u.oneCell' = true := by
  intro u hu
  simp [encOp] at hu
  rcases hu with rfl | rfl | rfl | rfl <;> rfl
theorem info29' : (Tryd.prog.info? 29).map (fun i => (i.zero, i.size, i.bytes)) = some (some (.agg #[.int .i64 0, .int .i64 0, .int .i64 0, .int .i64 0]), 4, 32) := by kernel_rfl
theorem info30' : (Tryd.prog.info? 30).map (fun i => (i.zero, i.size, i.bytes)) = some (some (.agg #[.int .i64 0, .int .i64 0, .int .i64 0, .int .i64 0]), 4, 32) := by kernel_rfl

/-- A slice that reads as n bytes. -/
def BA (w : World) (a : Option Addr) (n : Nat) (z : Nat → UInt8) : Prop :=
  n = 0 ∨ ∃ b off, a = some ⟨b, off, none⟩ ∧ b < w.heap.size ∧ ∀ i, i < n → w.cell? ⟨b, off + i, none⟩ = some (.int .u8 (z i).toNat)
theorem BA.keep {w w' : World} {a : Option Addr} {n : Nat} {z : Nat → UInt8} (h : BA w a n z) (hk : Keep NoB w w') : BA w' a n z := by
  rcases h with h | ⟨b, off, ha, hb, hc⟩
  · exact Or.inl h
  · exact Or.inr ⟨b, off, ha, Nat.lt_of_lt_of_le hb hk.size, fun i hi => hk.some (hc i hi) (fun h => h)⟩

/-- The k-th op, the first k. -/
def opAt (z : Nat → UInt8) (k : Nat) : SOp := (((z (4 * k)).toNat : Int) % 26, ((z (4 * k + 1)).toNat : Int), ((z (4 * k + 2)).toNat : Int), ((z (4 * k + 3)).toNat : Int))
def decK (z : Nat → UInt8) (k : Nat) : List SOp := (List.range k).map (opAt z)
theorem decK_succ (z : Nat → UInt8) (k : Nat) : decK z (k + 1) = decK z k ++ [opAt z k] := by simp [decK, List.range_succ]
theorem decK_len (z : Nat → UInt8) (k : Nat) : (decK z k).length = k := by simp [decK]

def lenV : Value → Nat
  | .slice _ n _ => n
  | _ => 0

def DecPost (e : TypeId) (V : List SOp) (w : World) (r : Ending) (w' : World) : Prop :=
  ∃ a' c', r = .returned (.slice a' V.length c') ∧ Own w' w.heap.size e 4 encOp (.slice a' V.length c') V ∧ Keep NoB w w'

set_option maxHeartbeats 4000000 in
theorem dec_any (a : Option Addr) (n cap : Nat) (z : Nat → UInt8) (w : World) (hn : n ≤ cap) (hcap : cap ≤ maxLen) (h : BA w a n z) (hl : n ≤ 4000000) (V : List SOp) (hV : decK z (n / 4) = V) :
    Calls Tryd.prog 8 #[.slice a n cap] w (DecPost 29 V w) := by
  unfold maxLen at hcap
  have HV := Lib.hid hV
  clear hV
  go_enter Tryd.func8, Tryd.ntmps8
  go_wp2_with fail
  go_loopw [0, 3] (fun bv o wr => ∃ (k : Nat) (ad : Option Addr) (M : List SOp) (a' : Option Addr) (c' : Nat), 4 * k ≤ n ∧ bv = .slice ad (n - 4 * k) (cap - 4 * k) ∧ BA w ad (n - 4 * k) (fun i => z (4 * k + i)) ∧ o = .slice a' M.length c' ∧ Own wr w.heap.size 29 4 encOp (.slice a' M.length c') M ∧ decK z k = M ∧ Keep NoB w wr) (fun bv _ _ => lenV bv)
  case atStart => exact ⟨0, a, [], none, 0, Nat.zero_le _, rfl, by simpa using h, rfl, Own.nil _ _ _ _ _, rfl, Keep.refl _ _⟩
  case round =>
    obtain ⟨k, ad, M, a', c', hk, rfl, hB, rfl, O, hM, kr⟩ := hrel
    have HMl := Lib.hid (show M.length = k by rw [← hM, decK_len])
    have HM := Lib.hid hM
    clear hM
    by_cases hgo : 4 ≤ n - 4 * k
    · rcases hB with h0 | ⟨b, off, rfl, hb, hc⟩
      · omega
      have m0 : w.cell? ⟨b, off, none⟩ = some (.int .u8 (z (4 * k)).toNat) := hc 0 (by omega)
      have m1 : w.cell? ⟨b, off + 1, none⟩ = some (.int .u8 (z (4 * k + 1)).toNat) := hc 1 (by omega)
      have m2 : w.cell? ⟨b, off + 2, none⟩ = some (.int .u8 (z (4 * k + 2)).toNat) := hc 2 (by omega)
      have m3 : w.cell? ⟨b, off + 3, none⟩ = some (.int .u8 (z (4 * k + 3)).toNat) := hc 3 (by omega)
      have Hc := Lib.hid hc
      clear hc
      obtain ⟨x0, hx0⟩ : ∃ x, z (4 * k) = x := ⟨_, rfl⟩
      obtain ⟨x1, hx1⟩ : ∃ x, z (4 * k + 1) = x := ⟨_, rfl⟩
      obtain ⟨x2, hx2⟩ : ∃ x, z (4 * k + 2) = x := ⟨_, rfl⟩
      obtain ⟨x3, hx3⟩ : ∃ x, z (4 * k + 3) = x := ⟨_, rfl⟩
      rw [hx0] at m0
      rw [hx1] at m1
      rw [hx2] at m2
      rw [hx3] at m3
      have hop : opAt z k = ((x0.toNat : Int) % 26, (x1.toNat : Int), (x2.toNat : Int), (x3.toNat : Int)) := by simp only [opAt, hx0, hx1, hx2, hx3]
      have Hop := Lib.hid hop
      clear hx0 hx1 hx2 hx3 hop
      obtain ⟨q, hq⟩ : ∃ q, n - 4 * k = q := ⟨_, rfl⟩
      obtain ⟨cq, hcq⟩ : ∃ q, cap - 4 * k = q := ⟨_, rfl⟩
      rw [hq] at hgo ⊢
      rw [hcq]
      have hqc : q ≤ cq := by omega
      have hcm : cq ≤ 9223372036854775807 := by omega
      have w0 : IntKind.i64.wrap (x0.toNat : Int) = x0.toNat := by rw [IntKind.wrap_i64]; have := x0.toNat_lt; omega
      have w1 : IntKind.i64.wrap (x1.toNat : Int) = x1.toNat := by rw [IntKind.wrap_i64]; have := x1.toNat_lt; omega
      have w2 : IntKind.i64.wrap (x2.toNat : Int) = x2.toNat := by rw [IntKind.wrap_i64]; have := x2.toNat_lt; omega
      have w3 : IntKind.i64.wrap (x3.toNat : Int) = x3.toNat := by rw [IntKind.wrap_i64]; have := x3.toNat_lt; omega
      have hlen : M.length + 1 ≤ 1000001 := by have := HMl.out; omega
      obtain ⟨M', hM'⟩ : ∃ l, M ++ [opAt z k] = l := ⟨_, rfl⟩
      have HM' := Lib.hid hM'
      rw [Hop.out] at hM'
      have hM'l : M'.length = M.length + 1 := by rw [← hM']; simp
      have HMl' := Lib.hid hM'l
      have HMx := Lib.hid hM'
      clear hM' hM'l
      have hcc : cq = 4 ∨ cq ≠ 4 := by omega
      have Hcc := Lib.hid hcc
      have Hq := Lib.hid hq
      have Hcq := Lib.hid hcq
      have HS0 := Lib.hid (⟨m0, m1, m2, m3⟩ : w.cell? ⟨b, off, none⟩ = some (.int .u8 x0.toNat) ∧ w.cell? ⟨b, off + 1, none⟩ = some (.int .u8 x1.toNat) ∧ w.cell? ⟨b, off + 2, none⟩ = some (.int .u8 x2.toNat) ∧ w.cell? ⟨b, off + 3, none⟩ = some (.int .u8 x3.toNat))
      clear hcc hq hcq m0 m1 m2 m3
      go_wp2_with fail
      refine wp_region_pl (fun u => u.cell? ⟨b, off, none⟩ = some (.int .u8 x0.toNat) ∧ u.cell? ⟨b, off + 1, none⟩ = some (.int .u8 x1.toNat) ∧ u.cell? ⟨b, off + 2, none⟩ = some (.int .u8 x2.toNat) ∧ u.cell? ⟨b, off + 3, none⟩ = some (.int .u8 x3.toNat)) [] (.rd 0 (.rd 1 (.rd 2 (.rd 3 (.rd 4 (.rd 5 (.rd 6 (.rd 7 (.rd 8 (.rd 9 (.rd 10 (.rd 11 (.rd 12 (.rd 13 (.rd 14 (.rd 15 (.rd 16 (.rd 17 (.rd 18 (.one 19 (.one 20 (.one 21 .done)))))))))))))))))))))) (by kernel_rfl) (by kernel_rfl) (by kernel_rfl) (by kernel_rfl) (by intro c b d v u h; cases d <;> exact h) ?_
      have ky : Keep NoB wr wr.drew := (Keep.refl NoB wr).drew
      generalize wr.drew = wy at ky ⊢
      have Oy := O.keep ky (fun _ _ h => h)
      have Ky := kr.trans ky
      have HS := Lib.hid (ks4 HS0.out Ky)
      have hsz := Ky.size
      clear O kr
      first
        | refine pl_get (i := 0) rfl rfl HS.out rfl (fun u hu => by (try dsimp only at hu); go_simp; rfl) (by simp only [List.setIfInBounds_toArray, List.set_cons_succ, List.set_cons_zero]; rfl) ?_
        | refine pl_skip (i := 0) rfl rfl HS.out rfl (by simp only [List.setIfInBounds_toArray, List.set_cons_succ, List.set_cons_zero]; rfl) ?_
      first
        | refine pl_get (i := 1) rfl rfl HS.out rfl (fun u hu => by (try dsimp only at hu); go_simp; rfl) (by simp only [List.setIfInBounds_toArray, List.set_cons_succ, List.set_cons_zero]; rfl) ?_
        | refine pl_skip (i := 1) rfl rfl HS.out rfl (by simp only [List.setIfInBounds_toArray, List.set_cons_succ, List.set_cons_zero]; rfl) ?_
      first
        | refine pl_get (i := 2) rfl rfl HS.out rfl (fun u hu => by (try dsimp only at hu); go_simp; rfl) (by simp only [List.setIfInBounds_toArray, List.set_cons_succ, List.set_cons_zero]; rfl) ?_
        | refine pl_skip (i := 2) rfl rfl HS.out rfl (by simp only [List.setIfInBounds_toArray, List.set_cons_succ, List.set_cons_zero]; rfl) ?_
      first
        | refine pl_get (i := 3) rfl rfl HS.out rfl (fun u hu => by (try dsimp only at hu); go_simp; rfl) (by simp only [List.setIfInBounds_toArray, List.set_cons_succ, List.set_cons_zero]; rfl) ?_
        | refine pl_skip (i := 3) rfl rfl HS.out rfl (by simp only [List.setIfInBounds_toArray, List.set_cons_succ, List.set_cons_zero]; rfl) ?_
      first
        | refine pl_get (i := 4) rfl rfl HS.out rfl (fun u hu => by (try dsimp only at hu); go_simp; rfl) (by simp only [List.setIfInBounds_toArray, List.set_cons_succ, List.set_cons_zero]; rfl) ?_
        | refine pl_skip (i := 4) rfl rfl HS.out rfl (by simp only [List.setIfInBounds_toArray, List.set_cons_succ, List.set_cons_zero]; rfl) ?_
      first
        | refine pl_get (i := 5) rfl rfl HS.out rfl (fun u hu => by (try dsimp only at hu); go_simp; rfl) (by simp only [List.setIfInBounds_toArray, List.set_cons_succ, List.set_cons_zero]; rfl) ?_
        | refine pl_skip (i := 5) rfl rfl HS.out rfl (by simp only [List.setIfInBounds_toArray, List.set_cons_succ, List.set_cons_zero]; rfl) ?_
      first
        | refine pl_get (i := 6) rfl rfl HS.out rfl (fun u hu => by (try dsimp only at hu); go_simp; rfl) (by simp only [List.setIfInBounds_toArray, List.set_cons_succ, List.set_cons_zero]; rfl) ?_
        | refine pl_skip (i := 6) rfl rfl HS.out rfl (by simp only [List.setIfInBounds_toArray, List.set_cons_succ, List.set_cons_zero]; rfl) ?_
      first
        | refine pl_get (i := 7) rfl rfl HS.out rfl (fun u hu => by (try dsimp only at hu); go_simp; rfl) (by simp only [List.setIfInBounds_toArray, List.set_cons_succ, List.set_cons_zero]; rfl) ?_
        | refine pl_skip (i := 7) rfl rfl HS.out rfl (by simp only [List.setIfInBounds_toArray, List.set_cons_succ, List.set_cons_zero]; rfl) ?_
      first
        | refine pl_get (i := 8) rfl rfl HS.out rfl (fun u hu => by (try dsimp only at hu); go_simp; rfl) (by simp only [List.setIfInBounds_toArray, List.set_cons_succ, List.set_cons_zero]; rfl) ?_
        | refine pl_skip (i := 8) rfl rfl HS.out rfl (by simp only [List.setIfInBounds_toArray, List.set_cons_succ, List.set_cons_zero]; rfl) ?_
      first
        | refine pl_get (i := 9) rfl rfl HS.out rfl (fun u hu => by (try dsimp only at hu); go_simp; rfl) (by simp only [List.setIfInBounds_toArray, List.set_cons_succ, List.set_cons_zero]; rfl) ?_
        | refine pl_skip (i := 9) rfl rfl HS.out rfl (by simp only [List.setIfInBounds_toArray, List.set_cons_succ, List.set_cons_zero]; rfl) ?_
      first
        | refine pl_get (i := 10) rfl rfl HS.out rfl (fun u hu => by (try dsimp only at hu); go_simp; rfl) (by simp only [List.setIfInBounds_toArray, List.set_cons_succ, List.set_cons_zero]; rfl) ?_
        | refine pl_skip (i := 10) rfl rfl HS.out rfl (by simp only [List.setIfInBounds_toArray, List.set_cons_succ, List.set_cons_zero]; rfl) ?_
      first
        | refine pl_get (i := 11) rfl rfl HS.out rfl (fun u hu => by (try dsimp only at hu); go_simp; rfl) (by simp only [List.setIfInBounds_toArray, List.set_cons_succ, List.set_cons_zero]; rfl) ?_
        | refine pl_skip (i := 11) rfl rfl HS.out rfl (by simp only [List.setIfInBounds_toArray, List.set_cons_succ, List.set_cons_zero]; rfl) ?_
      first
        | refine pl_get (i := 12) rfl rfl HS.out rfl (fun u hu => by (try dsimp only at hu); go_simp; rfl) (by simp only [List.setIfInBounds_toArray, List.set_cons_succ, List.set_cons_zero]; rfl) ?_
        | refine pl_skip (i := 12) rfl rfl HS.out rfl (by simp only [List.setIfInBounds_toArray, List.set_cons_succ, List.set_cons_zero]; rfl) ?_
      first
        | refine pl_get (i := 13) rfl rfl HS.out rfl (fun u hu => by (try dsimp only at hu); go_simp; rfl) (by simp only [List.setIfInBounds_toArray, List.set_cons_succ, List.set_cons_zero]; rfl) ?_
        | refine pl_skip (i := 13) rfl rfl HS.out rfl (by simp only [List.setIfInBounds_toArray, List.set_cons_succ, List.set_cons_zero]; rfl) ?_
      first
        | refine pl_get (i := 14) rfl rfl HS.out rfl (fun u hu => by (try dsimp only at hu); go_simp; rfl) (by simp only [List.setIfInBounds_toArray, List.set_cons_succ, List.set_cons_zero]; rfl) ?_
        | refine pl_skip (i := 14) rfl rfl HS.out rfl (by simp only [List.setIfInBounds_toArray, List.set_cons_succ, List.set_cons_zero]; rfl) ?_
      first
        | refine pl_get (i := 15) rfl rfl HS.out rfl (fun u hu => by (try dsimp only at hu); go_simp; rfl) (by simp only [List.setIfInBounds_toArray, List.set_cons_succ, List.set_cons_zero]; rfl) ?_
        | refine pl_skip (i := 15) rfl rfl HS.out rfl (by simp only [List.setIfInBounds_toArray, List.set_cons_succ, List.set_cons_zero]; rfl) ?_
      first
        | refine pl_get (i := 16) rfl rfl HS.out rfl (fun u hu => by (try dsimp only at hu); go_simp; rfl) (by simp only [List.setIfInBounds_toArray, List.set_cons_succ, List.set_cons_zero]; rfl) ?_
        | refine pl_skip (i := 16) rfl rfl HS.out rfl (by simp only [List.setIfInBounds_toArray, List.set_cons_succ, List.set_cons_zero]; rfl) ?_
      first
        | refine pl_get (i := 17) rfl rfl HS.out rfl (fun u hu => by (try dsimp only at hu); go_simp; rfl) (by simp only [List.setIfInBounds_toArray, List.set_cons_succ, List.set_cons_zero]; rfl) ?_
        | refine pl_skip (i := 17) rfl rfl HS.out rfl (by simp only [List.setIfInBounds_toArray, List.set_cons_succ, List.set_cons_zero]; rfl) ?_
      first
        | refine pl_get (i := 18) rfl rfl HS.out rfl (fun u hu => by (try dsimp only at hu); go_simp; rfl) (by simp only [List.setIfInBounds_toArray, List.set_cons_succ, List.set_cons_zero]; rfl) ?_
        | refine pl_skip (i := 18) rfl rfl HS.out rfl (by simp only [List.setIfInBounds_toArray, List.set_cons_succ, List.set_cons_zero]; rfl) ?_
      refine pl_one (i := 19) rfl ?_
      go_wp2_with (fail)
      have kz := (Keep.refl NoB wy).alloc (.cells #[.int .i64 ((x0.toNat : Int) % 26), .int .i64 x1.toNat, .int .i64 x2.toNat, .int .i64 x3.toNat] 29)
      have bz := blk_new wy (.cells #[.int .i64 ((x0.toNat : Int) % 26), .int .i64 x1.toNat, .int .i64 x2.toNat, .int .i64 x3.toNat] 29)
      generalize World.alloc wy _ = wz at kz bz ⊢
      generalize wy.heap.size = nb at bz ⊢
      have Kz := Ky.trans kz
      have HS2 := Lib.hid (ks4 HS0.out Kz)
      refine pl_next (fun _ => HS2.out) ?_
      have sz := Kz.size
      have Oz := Oy.keep kz (fun _ _ h => h)
      refine pl_one (i := 20) rfl ?_
      refine wpList_append_one rfl (.tmp 12) (.tmp 31) 24 rfl Tryd.underlying24 info29' (by kernel_rfl) (by decide) (by decide) rfl Oz encOp_len ((x0.toNat : Int) % 26, (x1.toNat : Int), (x2.toNat : Int), (x3.toNat : Int)) rfl bz rfl (encOp_one _) (by omega) (by omega) HMx.out ?_
      intro a4 c4 w4 O4 k4
      have K4 := Oz.knob Kz k4
      have HS3 := Lib.hid (ks4 HS0.out K4)
      refine pl_next (fun _ => HS3.out) ?_
      clear k4 Oz Kz HS2 HS Oy Ky bz kz ky
      refine pl_one (i := 21) rfl ?_
      go_wp2_with (fail)
      refine pl_next (fun _ => HS3.out) ?_
      refine pl_done ?_
      have hMM : decK z (k + 1) = M' := by rw [decK_succ, HM.out, HM'.out]
      have HMM := Lib.hid hMM
      clear hMM
      rcases Hcc.out with h4 | h4
      · go_wp2_with fail
        go_roundw
        case rel => exact ⟨k + 1, _, M', a4, c4, by have := Hq.out; omega, by rw [show n - 4 * (k + 1) = q - 4 by (have := Hq.out; omega), show cap - 4 * (k + 1) = 0 by (have := Hcq.out; omega)], Or.inl (by have := Hq.out; omega), rfl, O4, HMM.out, K4⟩
        case measure => simp [lenV]; omega
      · go_wp2_with fail
        go_roundw
        case rel => exact ⟨k + 1, _, M', a4, c4, by have := Hq.out; omega, by rw [show n - 4 * (k + 1) = q - 4 by (have := Hq.out; omega), show cap - 4 * (k + 1) = cq - 4 by (have := Hcq.out; omega)], Or.inr ⟨b, off + 4, rfl, hb, fun i hi => by
          show w.cell? _ = some (.int .u8 (z (4 * (k + 1) + i)).toNat)
          have := Hc.out (i + 4) (by omega)
          rw [show 4 * (k + 1) + i = 4 * k + (i + 4) by omega, show off + 4 + i = off + (i + 4) by omega]
          exact this⟩, rfl, O4, HMM.out, K4⟩
        case measure => simp [lenV]; omega
    · have hd : decide ((4 : Int) ≤ ((n - 4 * k : Nat) : Int)) = false := decide_eq_false (by omega)
      have hMV : M = V := by rw [← HV.out, ← HM.out, show n / 4 = k by omega]
      subst hMV
      generalize n - 4 * k = q at hd
      generalize cap - 4 * k = cq
      go_wp2
      go_ret
      exact ⟨a', c', rfl, O, kr⟩
end Go.Proofs.YtijllpjddbonjaaDoor
