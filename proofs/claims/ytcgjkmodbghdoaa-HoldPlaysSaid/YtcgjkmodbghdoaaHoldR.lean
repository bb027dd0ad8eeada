/- What the reference's table of tombstones comes to: Note. -/
import Derived.Test.YtcgjkmodbghdoaaHoldK
import Derived.Test.YtcgjkmodbghdoaaLibRise
import Derived.Test.YtcgjkmodbghdoaaLibSub
namespace Go.Proofs.Ytcgjkmodbghdoaa
open Go Go.RowKit Go.Maps Go.Sort

abbrev TB := ByteArray × Int
def tbC (x : TB) : List Value := [.string x.1, .int .i64 x.2]
theorem tbC_len (x : TB) : (tbC x).length = 2 := rfl
theorem tbC_one (x : TB) : ∀ u ∈ tbC x, u.oneCell' = true := by
  intro u hu
  simp [tbC] at hu
  rcases hu with rfl | rfl <;> rfl
theorem info51' : (Try.prog.info? 51).map (fun i => (i.zero, i.size, i.bytes)) = some (some (.agg #[.string ⟨#[]⟩, .int .i64 0]), 2, 24) := by kernel_rfl

structure RT (w : World) (B rb : Nat) (a : Option Addr) (cap : Nat) (limit floor : Int) (N : List TB) : Prop where
  blk : w.heap[rb]? = some (.cells #[.slice a N.length cap, .int .i64 limit, .int .i64 floor] 44 (0, 0))
  own : Own w B 51 2 tbC (.slice a N.length cap) N
/-- The reference's own blocks. -/
def RBk (rb : Nat) (s : Value) (j : Nat) : Prop := j = rb ∨ s.ownBlock = some j

section
variable {w w' : World} {B rb : Nat} {a : Option Addr} {cap : Nat} {limit floor : Int} {N : List TB}
theorem RT.keep {S : Nat → Prop} (T : RT w B rb a cap limit floor N) (hk : Keep S w w') (h1 : ¬ S rb) (h2 : ∀ g, (Value.slice a N.length cap).ownBlock = some g → ¬ S g) : RT w' B rb a cap limit floor N :=
  ⟨blk_keep T.blk hk h1, T.own.keep hk h2⟩
theorem RT.keep0 (T : RT w B rb a cap limit floor N) (hk : Keep NoB w w') : RT w' B rb a cap limit floor N := T.keep hk (fun h => h) (fun _ _ h => h)
theorem RT.ne (T : RT w B rb a cap limit floor N) : ∀ g, (Value.slice a N.length cap).ownBlock = some g → g ≠ rb := T.own.ne T.blk (by decide)
end

def RNPost (rb B : Nat) (s : Value) (limit floor : Int) (N : List TB) (w : World) (e : Ending) (w' : World) : Prop :=
  e = .returned (.tuple #[]) ∧ (∃ a cap, RT w' B rb a cap limit floor N) ∧ Keep (RBk rb s) w w'

theorem tb_set (t : Int) : ∀ (N : List TB) (i : Nat) (x : TB), N[i]? = some x → (N.flatMap tbC).set (i * 2 + 1) (.int .i64 t) = (N.set i (x.1, t)).flatMap tbC
  | [], i, x, h => by simp at h
  | y :: N, 0, x, h => by
    simp at h
    subst h
    simp [tbC]
  | y :: N, i + 1, x, h => by
    have h' : N[i]? = some x := by simpa using h
    have ih := tb_set t N i x h'
    have e : (i + 1) * 2 + 1 = (i * 2 + 1) + 2 := by omega
    rw [e]
    simp only [List.flatMap_cons, List.set_cons_succ, ← ih]
    rfl

/-- What a note makes of the list and the floor. -/
inductive NoteCase (limit floor : Int) (N : List TB) (s : ByteArray) (i : Int) : List TB → Int → Prop
  | zero (h : i < 1) : NoteCase limit floor N s i N floor
  | there (h : ¬ i < 1) (x : TB) (hx : N[rplace N s]? = some x) (hs : x.1 = s) : NoteCase limit floor N s i (N.set (rplace N s) (s, max x.2 i)) floor
  | new (h : ¬ i < 1) (hn : ∀ x, N[rplace N s]? = some x → x.1 ≠ s) (hl : (N.length : Int) < limit) : NoteCase limit floor N s i (rput N s i) floor
  | full (h : ¬ i < 1) (hn : ∀ x, N[rplace N s]? = some x → x.1 ≠ s) (hl : ¬ (N.length : Int) < limit) : NoteCase limit floor N s i N (max floor i)




set_option maxHeartbeats 2000000 in
theorem rnote_zero (rb B : Nat) (a : Option Addr) (cap : Nat) (limit floor : Int) (N : List TB) (s : ByteArray) (i : Int) (w : World) (T : RT w B rb a cap limit floor N) (hi : i < 1) :
    Calls Try.prog 17 #[.pointer (some ⟨rb, 0, none⟩), .string s, .int .i64 i] w (RNPost rb B (.slice a N.length cap) limit floor N w) := by
  have H := Lib.hid T
  clear T
  go_enter Try.func17, Try.ntmps17
  go_wp2
  go_end0
  exact ⟨rfl, ⟨a, cap, H.out⟩, Keep.refl _ _⟩


set_option maxHeartbeats 2000000 in
theorem rnote_there (rb B : Nat) (a : Option Addr) (cap : Nat) (limit floor : Int) (N : List TB) (s : ByteArray) (i : Int) (w : World) (T : RT w B rb a cap limit floor N) (hN : N.length ≤ 1000) (h1 : ¬ i < 1) (x : TB) (hx : N[rplace N s]? = some x) (hs : x.1 = s) (m : Int) (hm : max x.2 i = m) :
    Calls Try.prog 17 #[.pointer (some ⟨rb, 0, none⟩), .string s, .int .i64 i] w (RNPost rb B (.slice a N.length cap) limit floor (N.set (rplace N s) (s, m)) w) := by
  have hd : decide (i < 1) = false := decide_eq_false h1
  have hpl : rplace N s < N.length := (List.getElem?_eq_some_iff.1 hx).1
  have Hx := Lib.hid hx
  have Hs := Lib.hid hs
  have Hm := Lib.hid hm
  clear hx hs hm
  have c0 := blk_cell T.blk 0
  have c1 := blk_cell T.blk 1
  have c2 := blk_cell T.blk 2
  have hlt := blk_lt T.blk
  have hRn := T.ne
  have O := T.own
  have HT := Lib.hid T
  clear T
  simp at c0 c1 c2
  go_enter Try.func17, Try.ntmps17
  go_wp2_with fail
  go_loopw [6] (fun iv wr => ∃ k : Nat, k ≤ rplace N s ∧ iv = .int .i64 (k : Int) ∧ wr = w) (fun iv _ => rplace N s - (intOf iv).toNat)
  case atStart => exact ⟨0, Nat.zero_le _, rfl, rfl⟩
  case round =>
    obtain ⟨k, hk, rfl, rfl⟩ := hrel
    have hrl := rplace_le s N
    by_cases hkl : k < rplace N s
    · have hkn : k < N.length := by omega
      obtain ⟨x, hx⟩ : ∃ x, N[k]? = some x := ⟨_, List.getElem?_eq_getElem hkn⟩
      have hxl := tx_lt (rplace_lt s N k x hx hkl)
      obtain ⟨g, cap', hvv, hg1, hg2, hcx⟩ := O.cells tbC_len hx
      cases hvv
      have m0 := hcx 0 _ rfl
      simp only [Nat.add_zero] at m0
      obtain ⟨xs, xt⟩ := x
      simp only at hxl
      simp at m0
      clear hcx hx
      go_wp2_with fail
      go_roundw
      case rel => exact ⟨k + 1, hkl, by go_num, trivial⟩
      case measure => simp [intOf]; omega
    · have hke : k = rplace N s := by omega
      have Hke := Lib.hid hke
      clear hke hkl hrl hk
      have hx := Hx.out
      rw [← Hke.out] at hx
      have hkn : k < N.length := (List.getElem?_eq_some_iff.1 hx).1
      obtain ⟨g, cap', hvv, hg1, hg2, hcx⟩ := O.cells tbC_len hx
      cases hvv
      have m0 := hcx 0 _ rfl
      have m1 := hcx 1 _ rfl
      simp only [Nat.add_zero] at m0
      have hxs := Hs.out
      obtain ⟨xs, xt⟩ := x
      simp only at hxs
      subst hxs
      have hxl := tx_nlt (x := xs) (y := xs) (List.lt_irrefl _)
      have hq1 : (xs.toList == xs.toList) = true := by simp
      have fg : wr.frozen? ⟨g, k * 2 + 1, none⟩ = false := O.free rfl
      have HO := Lib.hid O
      have hmm := Hm.out
      simp only at hmm
      simp at m0 m1
      rcases (by omega : xt < i ∧ m = i ∨ ¬ xt < i ∧ m = xt) with ⟨hlt3, rfl⟩ | ⟨hlt3, rfl⟩
      · have hd3 : decide (xt < m) = true := decide_eq_true hlt3
        clear hcx hx O hmm
        go_wp2
        go_end0
        have O3 := (World.ownsRow.stored HO.out (k * 2 + 1) (.int .i64 m)).1
        rw [tb_set m N k (xs, xt) (by rw [Hke.out]; exact Hx.out)] at O3
        have O4 : Own (wr.setCell ⟨g, k * 2 + 1, none⟩ (.int .i64 m)) B 51 2 tbC (.slice (some ⟨g, 0, none⟩) (N.set k (xs, m)).length cap) (N.set k (xs, m)) := by
          unfold Own
          rw [List.length_set]
          exact O3
        have hgr : g ≠ rb := hRn g rfl
        rw [Hke.out] at O4 ⊢
        refine ⟨rfl, ⟨some ⟨g, 0, none⟩, cap, ⟨?_, O4⟩⟩, (Keep.refl _ wr).setCell (p := ⟨g, _, none⟩) (Or.inr (Or.inr rfl)) _⟩
        rw [List.length_set]
        exact (Below.heap_setCell wr ⟨g, _, none⟩ (.int .i64 m) rb (by simpa using Ne.symm hgr)).trans HT.out.blk
      · have hd3 : decide (m < i) = false := decide_eq_false hlt3
        have hse : N.set (rplace N xs) (xs, m) = N := by
          have := Hx.out
          apply List.ext_getElem?
          intro j
          rw [List.getElem?_set]
          by_cases hj : rplace N xs = j
          · subst hj
            rw [if_pos rfl, if_pos (by rw [← Hke.out]; exact hkn), this]
          · rw [if_neg hj]
        have Hse := Lib.hid hse
        clear hcx hx O hmm hse
        go_wp2
        go_end0
        rw [Hse.out]
        exact ⟨rfl, ⟨_, cap, HT.out⟩, Keep.refl _ _⟩









set_option maxHeartbeats 2000000 in
theorem rnote_full (rb B : Nat) (a : Option Addr) (cap : Nat) (limit floor : Int) (N : List TB) (s : ByteArray) (i : Int) (w : World) (T : RT w B rb a cap limit floor N) (hN : N.length ≤ 1000) (h1 : ¬ i < 1) (hn : ∀ x, N[rplace N s]? = some x → x.1 ≠ s) (hl : ¬ (N.length : Int) < limit) (m : Int) (hm : max floor i = m) :
    Calls Try.prog 17 #[.pointer (some ⟨rb, 0, none⟩), .string s, .int .i64 i] w (RNPost rb B (.slice a N.length cap) limit m N w) := by
  have hd : decide (i < 1) = false := decide_eq_false h1
  have hdl : decide ((N.length : Int) < limit) = false := decide_eq_false hl
  have Hn := Lib.hid hn
  have hmc : (decide (floor < i) = true ∧ m = i) ∨ (decide (floor < i) = false ∧ m = floor) := by
    by_cases h : floor < i
    · exact Or.inl ⟨decide_eq_true h, by omega⟩
    · exact Or.inr ⟨decide_eq_false h, by omega⟩
  have f2 := blk_free T.blk 2
  clear hn hl hm
  have c0 := blk_cell T.blk 0
  have c1 := blk_cell T.blk 1
  have c2 := blk_cell T.blk 2
  have hlt := blk_lt T.blk
  have hRn := T.ne
  have O := T.own
  have HT := Lib.hid T
  clear T
  simp at c0 c1 c2
  rcases hmc with ⟨hdf, rfl⟩ | ⟨hdf, rfl⟩
  · go_enter Try.func17, Try.ntmps17
    go_wp2_with fail
    go_loopw [6] (fun iv wr => ∃ k : Nat, k ≤ rplace N s ∧ iv = .int .i64 (k : Int) ∧ wr = w) (fun iv _ => rplace N s - (intOf iv).toNat)
    case atStart => exact ⟨0, Nat.zero_le _, rfl, rfl⟩
    case round =>
      obtain ⟨k, hk, rfl, rfl⟩ := hrel
      have hrl := rplace_le s N
      by_cases hkl : k < rplace N s
      · have hkn : k < N.length := by omega
        obtain ⟨x, hx⟩ : ∃ x, N[k]? = some x := ⟨_, List.getElem?_eq_getElem hkn⟩
        have hxl := tx_lt (rplace_lt s N k x hx hkl)
        obtain ⟨g, cap', hvv, hg1, hg2, hcx⟩ := O.cells tbC_len hx
        cases hvv
        have m0 := hcx 0 _ rfl
        simp only [Nat.add_zero] at m0
        obtain ⟨xs, xt⟩ := x
        simp only at hxl
        simp at m0
        clear hcx hx
        go_wp2_with fail
        go_roundw
        case rel => exact ⟨k + 1, hkl, by go_num, trivial⟩
        case measure => simp [intOf]; omega
      · have hke : k = rplace N s := by omega
        have Hke := Lib.hid hke
        clear hke hkl hrl hk
        have hcase : (k < N.length ∧ ∃ x, N[k]? = some x ∧ Op.bytesLess x.1.toList s.toList = false ∧ (x.1.toList == s.toList) = false) ∨ (¬ k < N.length ∧ decide ((k : Int) < (N.length : Int)) = false) := by
          by_cases hkn : k < N.length
          · obtain ⟨x, hx⟩ : ∃ x, N[k]? = some x := ⟨_, List.getElem?_eq_getElem hkn⟩
            have hx' := hx
            rw [Hke.out] at hx'
            exact Or.inl ⟨hkn, x, hx, tx_nlt (rplace_at s N x hx'), tx_ne (Hn.out x hx')⟩
          · exact Or.inr ⟨hkn, decide_eq_false (by omega)⟩
        rcases hcase with ⟨hkn, x, hx, hxl, hxe⟩ | ⟨hkn, hdk⟩
        · obtain ⟨g, cap', hvv, hg1, hg2, hcx⟩ := O.cells tbC_len hx
          have hlk := hcx 0 _ rfl
          simp only [Nat.add_zero] at hlk
          have Hvv := Lib.hid hvv
          obtain ⟨xs, xt⟩ := x
          simp only at hxl hxe
          simp at hlk
          cases hvv
          clear hcx hx Hvv
          go_wp2_with fail
          go_quiet (fail)
          go_wp2
          go_end0
          refine ⟨rfl, ⟨_, cap, ⟨?_, HT.out.own.keep (S := OneB rb) (((Keep.refl (OneB rb) wr).drewN nq).setCell (p := ⟨rb, 2, none⟩) (Or.inr rfl) (.int .i64 m)) (fun g hg e => hRn g hg e)⟩⟩, ((Keep.refl _ wr).drewN nq).setCell (p := ⟨rb, 2, none⟩) (Or.inr (Or.inl rfl)) _⟩
          have := blk_setCell (i := 2) (show (wr.drewN nq).heap[rb]? = _ from HT.out.blk) (.int .i64 m)
          simpa using this
        · go_wp2_with fail
          go_quiet (fail)
          go_wp2
          go_end0
          refine ⟨rfl, ⟨_, cap, ⟨?_, HT.out.own.keep (S := OneB rb) (((Keep.refl (OneB rb) wr).drewN nq).setCell (p := ⟨rb, 2, none⟩) (Or.inr rfl) (.int .i64 m)) (fun g hg e => hRn g hg e)⟩⟩, ((Keep.refl _ wr).drewN nq).setCell (p := ⟨rb, 2, none⟩) (Or.inr (Or.inl rfl)) _⟩
          have := blk_setCell (i := 2) (show (wr.drewN nq).heap[rb]? = _ from HT.out.blk) (.int .i64 m)
          simpa using this
  · go_enter Try.func17, Try.ntmps17
    go_wp2_with fail
    go_loopw [6] (fun iv wr => ∃ k : Nat, k ≤ rplace N s ∧ iv = .int .i64 (k : Int) ∧ wr = w) (fun iv _ => rplace N s - (intOf iv).toNat)
    case atStart => exact ⟨0, Nat.zero_le _, rfl, rfl⟩
    case round =>
      obtain ⟨k, hk, rfl, rfl⟩ := hrel
      have hrl := rplace_le s N
      by_cases hkl : k < rplace N s
      · have hkn : k < N.length := by omega
        obtain ⟨x, hx⟩ : ∃ x, N[k]? = some x := ⟨_, List.getElem?_eq_getElem hkn⟩
        have hxl := tx_lt (rplace_lt s N k x hx hkl)
        obtain ⟨g, cap', hvv, hg1, hg2, hcx⟩ := O.cells tbC_len hx
        cases hvv
        have m0 := hcx 0 _ rfl
        simp only [Nat.add_zero] at m0
        obtain ⟨xs, xt⟩ := x
        simp only at hxl
        simp at m0
        clear hcx hx
        go_wp2_with fail
        go_roundw
        case rel => exact ⟨k + 1, hkl, by go_num, trivial⟩
        case measure => simp [intOf]; omega
      · have hke : k = rplace N s := by omega
        have Hke := Lib.hid hke
        clear hke hkl hrl hk
        have hcase : (k < N.length ∧ ∃ x, N[k]? = some x ∧ Op.bytesLess x.1.toList s.toList = false ∧ (x.1.toList == s.toList) = false) ∨ (¬ k < N.length ∧ decide ((k : Int) < (N.length : Int)) = false) := by
          by_cases hkn : k < N.length
          · obtain ⟨x, hx⟩ : ∃ x, N[k]? = some x := ⟨_, List.getElem?_eq_getElem hkn⟩
            have hx' := hx
            rw [Hke.out] at hx'
            exact Or.inl ⟨hkn, x, hx, tx_nlt (rplace_at s N x hx'), tx_ne (Hn.out x hx')⟩
          · exact Or.inr ⟨hkn, decide_eq_false (by omega)⟩
        rcases hcase with ⟨hkn, x, hx, hxl, hxe⟩ | ⟨hkn, hdk⟩
        · obtain ⟨g, cap', hvv, hg1, hg2, hcx⟩ := O.cells tbC_len hx
          have hlk := hcx 0 _ rfl
          simp only [Nat.add_zero] at hlk
          have Hvv := Lib.hid hvv
          obtain ⟨xs, xt⟩ := x
          simp only at hxl hxe
          simp at hlk
          cases hvv
          clear hcx hx Hvv
          go_wp2_with fail
          go_quiet (fail)
          go_wp2
          go_end0
          exact ⟨rfl, ⟨_, cap, HT.out.keep0 ((Keep.refl _ wr).drewN nq)⟩, (Keep.refl _ wr).drewN nq⟩
        · go_wp2_with fail
          go_quiet (fail)
          go_wp2
          go_end0
          exact ⟨rfl, ⟨_, cap, HT.out.keep0 ((Keep.refl _ wr).drewN nq)⟩, (Keep.refl _ wr).drewN nq⟩
end Go.Proofs.Ytcgjkmodbghdoaa
