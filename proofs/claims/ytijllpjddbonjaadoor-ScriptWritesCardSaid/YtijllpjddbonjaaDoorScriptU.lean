/- What Itoa, Digits, Key, Text of package script and its reference come to. -/
import Derived.Test.YtijllpjddbonjaaDoorScriptV
import Derived.Test.YtijllpjddbonjaaDoorShelf
import Derived.Lib.AppendIntMem
import Derived.Lib.ItoaLen
namespace Go.Proofs.YtijllpjddbonjaaDoor
open Go Go.RowKit Go.Maps

theorem tab_keep {w w' : World} {zs : List Int} (h : Lib.TabIs Tryd.prog w "internal/strconv.uint64pow10" .u64 zs) (hk : Keep NoB w w') : Lib.TabIs Tryd.prog w' "internal/strconv.uint64pow10" .u64 zs := by
  unfold Lib.TabIs World.var? at h ⊢
  cases hg : Tryd.prog.globalNamed "internal/strconv.uint64pow10" with
  | none => rw [hg] at h; cases h
  | some g =>
    rw [hg] at h
    simp only [Option.bind_some] at h ⊢
    have hlt : g < w.heap.size := by
      rcases Nat.lt_or_ge g w.heap.size with h' | h'
      · exact h'
      · rw [Array.getElem?_eq_none h'] at h; cases h
    rw [hk.block g hlt (fun h => h)]
    exact h

abbrev HTab (w : World) : Prop := Lib.TabIs Tryd.prog w "internal/strconv.uint64pow10" .u64 Lib.pow10Tab
def itS (n : Int) : ByteArray := ⟨(Lib.itoa n).toArray⟩
def I64 (n : Int) : Prop := -9223372036854775808 ≤ n ∧ n ≤ 9223372036854775807

theorem itoa_any (n : Int) (hn : I64 n) (w : World) (ht : HTab w) :
    Calls Tryd.prog 17 #[.int .i64 n] w fun e w' => e = .returned (.string (itS n)) ∧ Keep NoB w w' := by
  have h := Any.strconv_Itoa Tryd.laysItoa n hn.1 hn.2 w ht
  change Calls Tryd.prog 17 _ _ _ at h
  refine h.mono ?_
  rintro _ _ ⟨rfl, k, os, rfl⟩
  exact ⟨rfl, Keep.of_below (Lib.below_grow _ w (Nat.le_refl _) k os)⟩

theorem dd_step {n : Int} {u : Nat} {s s' : List UInt8} (h : Lib.decDigits n.natAbs = Lib.decDigits u ++ s) (hs : UInt8.ofNat (48 + u % 10) :: s = s') (hu : ¬ u < 10) : Lib.decDigits n.natAbs = Lib.decDigits (u / 10) ++ s' := by
  rw [h, Lib.decDigits, dif_neg hu, ← hs]
  simp
theorem dd_fin {n : Int} {u : Nat} {s s' : List UInt8} (h : Lib.decDigits n.natAbs = Lib.decDigits u ++ s) (hs : UInt8.ofNat (48 + u % 10) :: s = s') (hu : u < 10) : Lib.decDigits n.natAbs = s' := by
  rw [h, Lib.decDigits, dif_pos hu, ← hs, Nat.mod_eq_of_lt hu]
  simp
theorem itS_size {n : Int} (hn : I64 n) : (itS n).size ≤ 21 := by
  have := Lib.itoa_length_le n hn.1 hn.2
  simpa [itS, ByteArray.size] using this
theorem itS_pos {n : Int} {s : List UInt8} (hn : 0 ≤ n) (h : Lib.decDigits n.natAbs = s) : (⟨s.toArray⟩ : ByteArray) = itS n := by
  unfold itS Lib.itoa
  rw [if_neg (by omega), ← h, show n.natAbs = n.toNat by omega]
theorem itS_neg {n : Int} {s : List UInt8} (hn : n < 0) (h : Lib.decDigits n.natAbs = s) : (⟨#[45]⟩ ++ ⟨s.toArray⟩ : ByteArray) = itS n := by
  unfold itS Lib.itoa
  rw [if_pos hn, ← h]
  apply ByteArray.ext
  simp

theorem i64_and7 (n : Int) : bits .and .i64 n 7 = n % 8 := by
  have h127 : (BitVec.ofInt 64 7).toNat = 2 ^ 3 - 1 := by decide
  have key : (BitVec.ofInt 64 n &&& BitVec.ofInt 64 7).toNat = (n % ((2 ^ 64 : Nat) : Int)).toNat % 2 ^ 3 := by
    rw [BitVec.toNat_and, BitVec.toNat_ofInt, h127, Nat.and_two_pow_sub_one_eq_mod]
  show IntKind.i64.wrap ((BitVec.ofInt 64 n &&& BitVec.ofInt 64 7).toNat : Nat) = n % 8
  rw [key, IntKind.wrap_i64]
  omega

set_option maxHeartbeats 4000000 in
theorem digits_any (n : Int) (hn : I64 n) (w : World) :
    Calls Tryd.prog 18 #[.int .i64 n] w fun e w' => e = .returned (.string (itS n)) ∧ Keep NoB w w' := by
  have hsn := itS_size hn
  obtain ⟨hn0, hn1⟩ := hn
  have hnc : (decide (n < 0) = true ∧ n < 0) ∨ (decide (n < 0) = false ∧ 0 ≤ n) := by
    by_cases h : n < 0
    · exact Or.inl ⟨decide_eq_true h, h⟩
    · exact Or.inr ⟨decide_eq_false h, by omega⟩
  have Hnc := Lib.hid hnc
  obtain ⟨neg, hneg⟩ : ∃ b, decide (n < 0) = b := ⟨_, rfl⟩
  rw [hneg] at hnc
  go_enter Tryd.func18, Tryd.ntmps18
  go_wp2_with fail
  clear hneg Hnc
  go_loopw [0, 4] (fun mv sv wr => ∃ (m : Int) (s : List UInt8), mv = .int .i64 m ∧ sv = .string ⟨s.toArray⟩ ∧ -9223372036854775808 ≤ m ∧ m ≤ 9223372036854775807 ∧ Lib.decDigits n.natAbs = Lib.decDigits m.natAbs ++ s ∧ Keep NoB w wr) (fun mv _ _ => (intOf mv).natAbs)
  case atStart => exact ⟨n, [], rfl, rfl, hn0, hn1, by simp, Keep.refl _ _⟩
  case round =>
    obtain ⟨m, s, rfl, rfl, hm0, hm1, hd, kr⟩ := hrel
    have hx : ∀ d, d < 10 → ByteArray.extract ⟨#[48, 49, 50, 51, 52, 53, 54, 55, 56, 57]⟩ d (d + 1) ++ ⟨s.toArray⟩ = (⟨(UInt8.ofNat (48 + d) :: s).toArray⟩ : ByteArray) := by
      intro d hd
      have h1 : ∀ d : Fin 10, ByteArray.extract ⟨#[48, 49, 50, 51, 52, 53, 54, 55, 56, 57]⟩ d.val (d.val + 1) = (⟨#[UInt8.ofNat (48 + d.val)]⟩ : ByteArray) := by decide +kernel
      rw [h1 ⟨d, hd⟩]
      apply ByteArray.ext
      simp
    have hsl : s.length ≤ 20 := by
      have h1 := congrArg List.length hd
      rw [Lib.decDigits_length, List.length_append, Lib.decDigits_length] at h1
      have := Lib.nDigits_le20 n.natAbs (by omega)
      omega
    obtain ⟨u, hu⟩ : ∃ u : Nat, m.natAbs = u := ⟨_, rfl⟩
    rw [hu] at hd
    obtain ⟨s', hs'⟩ : ∃ s', UInt8.ofNat (48 + u % 10) :: s = s' := ⟨_, rfl⟩
    have hx1 := hx (u % 10) (by omega)
    rw [hs'] at hx1
    have hsz : s'.length ≤ 21 := by rw [← hs']; simp; omega
    have Hd := Lib.hid hd
    have Hs' := Lib.hid hs'
    clear hx hd hs'
    have hcase : m = (u : Int) ∨ (m = -(u : Int) ∧ (u : Int) % 10 = 0) ∨ (m = -(u : Int) ∧ 0 < (u : Int) % 10) := by omega
    have hz : u % 10 = 0 → ByteArray.extract ⟨#[48, 49, 50, 51, 52, 53, 54, 55, 56, 57]⟩ 0 1 ++ ⟨s.toArray⟩ = (⟨s'.toArray⟩ : ByteArray) := fun h => by rw [h] at hx1; exact hx1
    have hlast : u < 10 ∨ ¬ u < 10 := by omega
    clear hu
    rcases hcase with rfl | ⟨rfl, h0⟩ | ⟨rfl, h0⟩
    · rcases hlast with hu | hu
      · have e0 : (u : Int) / 10 = 0 := by omega
        have hfin := dd_fin Hd.out Hs'.out hu
        clear hz
        rcases hnc with ⟨rfl, hng⟩ | ⟨rfl, hng⟩
        · have hfn := itS_neg hng hfin
          clear hfin
          go_wp2_with fail
          go_ret
          exact ⟨rfl, kr⟩
        · have hfn := itS_pos hng hfin
          clear hfin
          go_wp2_with fail
          go_ret
          exact ⟨rfl, kr⟩
      · have hst := dd_step Hd.out Hs'.out hu
        have hne : ((u : Int) / 10 == 0) = false := by rw [beq_eq_false_iff_ne]; omega
        have Hst := Lib.hid hst
        clear hz hst
        go_wp2_with fail
        go_roundw
        case rel => exact ⟨(u : Int) / 10, s', rfl, rfl, by omega, by omega, by rw [Hst.out]; congr 2, kr⟩
        case measure => simp [intOf]; omega
    · have hz1 := hz (by omega)
      rcases hlast with hu | hu
      · have e0 : (u : Int) / 10 = 0 := by omega
        have hfin := dd_fin Hd.out Hs'.out hu
        clear hz hx1
        rcases hnc with ⟨rfl, hng⟩ | ⟨rfl, hng⟩
        · have hfn := itS_neg hng hfin
          clear hfin
          go_wp2_with fail
          go_ret
          exact ⟨rfl, kr⟩
        · have hfn := itS_pos hng hfin
          clear hfin
          go_wp2_with fail
          go_ret
          exact ⟨rfl, kr⟩
      · have hst := dd_step Hd.out Hs'.out hu
        have hne : (-((u : Int) / 10) == 0) = false := by rw [beq_eq_false_iff_ne]; omega
        have Hst := Lib.hid hst
        clear hz hst hx1
        go_wp2_with fail
        go_roundw
        case rel => exact ⟨-((u : Int) / 10), s', rfl, rfl, by omega, by omega, by rw [Hst.out]; congr 2; omega, kr⟩
        case measure => simp [intOf]; omega
    · rcases hlast with hu | hu
      · have e0 : (u : Int) / 10 = 0 := by omega
        have hfin := dd_fin Hd.out Hs'.out hu
        clear hz
        rcases hnc with ⟨rfl, hng⟩ | ⟨rfl, hng⟩
        · have hfn := itS_neg hng hfin
          clear hfin
          go_wp2_with fail
          go_ret
          exact ⟨rfl, kr⟩
        · have hfn := itS_pos hng hfin
          clear hfin
          go_wp2_with fail
          go_ret
          exact ⟨rfl, kr⟩
      · have hst := dd_step Hd.out Hs'.out hu
        have hne : (-((u : Int) / 10) == 0) = false := by rw [beq_eq_false_iff_ne]; omega
        have Hst := Lib.hid hst
        clear hz hst
        go_wp2_with fail
        go_roundw
        case rel => exact ⟨-((u : Int) / 10), s', rfl, rfl, by omega, by omega, by rw [Hst.out]; congr 2; omega, kr⟩
        case measure => simp [intOf]; omega

/-! ### Key, Text -/
def cat (a b : ByteArray) : ByteArray := a ++ b
def keyS (n : Int) : ByteArray := ⟨#[107]⟩ ++ itS n
def textS (a b : Int) : ByteArray := ⟨#[118]⟩ ++ itS a ++ ⟨#[46]⟩ ++ itS b

theorem key_any (n : Int) (w : World) (ht : HTab w) :
    Calls Tryd.prog 10 #[.int .i64 n] w fun e w' => e = .returned (.string (keyS (n % 8))) ∧ Keep NoB w w' := by
  have h1 : I64 (n % 8) := by unfold I64; omega
  have h2 := itS_size h1
  have h3 := i64_and7 n
  have h4 : (⟨#[107]⟩ ++ itS (n % 8) : ByteArray) = keyS (n % 8) := rfl
  go_enter Tryd.func10, Tryd.ntmps10
  go_wp2_with fail
  refine (itoa_any _ h1 _ ht).mono ?_
  rintro _ w2 ⟨rfl, k2⟩
  go_wp2
  go_ret
  exact ⟨rfl, k2⟩

theorem rkey_any (n : Int) (hn : I64 n) (w : World) :
    Calls Tryd.prog 11 #[.int .i64 n] w fun e w' => e = .returned (.string (keyS (n % 8))) ∧ Keep NoB w w' := by
  have h1 : I64 (n % 8) := by unfold I64; omega
  have h2 := itS_size h1
  have h4 : (⟨#[107]⟩ ++ itS (n % 8) : ByteArray) = keyS (n % 8) := rfl
  obtain ⟨m, hm⟩ : ∃ m, n.tmod 8 = m := ⟨_, rfl⟩
  have hmm : (0 ≤ n ∧ m = n % 8) ∨ (n < 0 ∧ m = -((-n) % 8)) := by
    by_cases h : 0 ≤ n
    · exact Or.inl ⟨h, by rw [← hm, Int.tmod_eq_emod_of_nonneg h]⟩
    · refine Or.inr ⟨by omega, ?_⟩
      rw [← Int.tmod_eq_emod_of_nonneg (by omega : 0 ≤ -n), Int.neg_tmod, Int.neg_neg, hm]
  have hc : (decide (m < 0) = true ∧ m + 8 = n % 8 ∧ -8 ≤ m ∧ m < 0) ∨ (decide (m < 0) = false ∧ m = n % 8) := by
    by_cases h : m < 0
    · exact Or.inl ⟨decide_eq_true h, by omega, by omega, h⟩
    · exact Or.inr ⟨decide_eq_false h, by omega⟩
  obtain ⟨k, hk⟩ : ∃ k, n % 8 = k := ⟨_, rfl⟩
  rw [hk] at h1 h2 h4 hc ⊢
  clear hmm
  rcases hc with ⟨hd, e, e1, e2⟩ | ⟨hd, e⟩
  · have e3 : IntKind.i64.wrap (m + 8) = k := by rw [IntKind.wrap_i64]; omega
    clear hk
    go_enter Tryd.func11, Tryd.ntmps11
    go_wp2_with fail
    refine (digits_any _ h1 _).mono ?_
    rintro _ w2 ⟨rfl, k2⟩
    go_wp2
    go_ret
    exact ⟨rfl, k2⟩
  · subst e
    clear hk
    go_enter Tryd.func11, Tryd.ntmps11
    go_wp2_with fail
    refine (digits_any _ h1 _).mono ?_
    rintro _ w2 ⟨rfl, k2⟩
    go_wp2
    go_ret
    exact ⟨rfl, k2⟩

theorem text_any (a b : Int) (ha : I64 a) (hb : I64 b) (w : World) (ht : HTab w) :
    Calls Tryd.prog 12 #[.int .i64 a, .int .i64 b] w fun e w' => e = .returned (.string (textS a b)) ∧ Keep NoB w w' := by
  have h2 := itS_size ha
  have h3 := itS_size hb
  have h4 : (⟨#[118]⟩ ++ itS a ++ ⟨#[46]⟩ ++ itS b : ByteArray) = textS a b := rfl
  go_enter Tryd.func12, Tryd.ntmps12
  go_wp2_with fail
  refine (itoa_any _ ha _ ht).mono ?_
  rintro _ w2 ⟨rfl, k2⟩
  go_wp2_with fail
  refine (itoa_any _ hb _ (tab_keep ht k2)).mono ?_
  rintro _ w3 ⟨rfl, k3⟩
  go_wp2
  go_ret
  exact ⟨rfl, k2.trans k3⟩

theorem rtext_any (a b : Int) (ha : I64 a) (hb : I64 b) (w : World) :
    Calls Tryd.prog 13 #[.int .i64 a, .int .i64 b] w fun e w' => e = .returned (.string (textS a b)) ∧ Keep NoB w w' := by
  have h2 := itS_size ha
  have h3 := itS_size hb
  have h4 : (⟨#[118]⟩ ++ itS a ++ ⟨#[46]⟩ ++ itS b : ByteArray) = textS a b := rfl
  go_enter Tryd.func13, Tryd.ntmps13
  go_wp2_with fail
  refine (digits_any _ ha _).mono ?_
  rintro _ w2 ⟨rfl, k2⟩
  go_wp2_with fail
  refine (digits_any _ hb _).mono ?_
  rintro _ w3 ⟨rfl, k3⟩
  go_wp2
  go_ret
  exact ⟨rfl, k2.trans k3⟩
end Go.Proofs.YtijllpjddbonjaaDoor
