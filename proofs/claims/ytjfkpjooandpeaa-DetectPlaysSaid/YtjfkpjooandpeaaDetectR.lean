/- What the reference's detector comes to: Find, Lives, Live, Tick, Beat. -/
import Derived.Test.YtjfkpjooandpeaaDetectQ2
namespace Go.Proofs.Ytjfkpjooandpeaa
open Go Go.RowKit Go.Maps Go.Sort

abbrev RN := ByteArray × Int
def rnCells (x : RN) : List Value := [.string x.1, .int .i64 x.2]
theorem rnCells_len (x : RN) : (rnCells x).length = 2 := rfl
theorem rnCells_one (x : RN) : ∀ u ∈ rnCells x, u.oneCell' = true := by
  intro u hu
  simp [rnCells] at hu
  rcases hu with rfl | rfl <;> rfl
theorem info58' : (Try.prog.info? 58).map (fun i => (i.zero, i.size, i.bytes)) = some (some (.agg #[.string ⟨#[]⟩, .int .i64 0]), 2, 24) := by kernel_rfl

structure RTab (w : World) (B rb : Nat) (a : Option Addr) (cap : Nat) (pat now ch : Int) (N : List RN) : Prop where
  blk : w.heap[rb]? = some (.cells #[.slice a N.length cap, .int .i64 pat, .int .i64 now, .int .i64 ch] 40 (0, 0))
  own : Own w B 58 2 rnCells (.slice a N.length cap) N

section
variable {w w' : World} {B rb : Nat} {a : Option Addr} {cap : Nat} {pat now ch : Int} {N : List RN}
theorem RTab.keep {S : Nat → Prop} (T : RTab w B rb a cap pat now ch N) (hk : Keep S w w') (h1 : ¬ S rb) (h2 : ∀ g, (Value.slice a N.length cap).ownBlock = some g → ¬ S g) : RTab w' B rb a cap pat now ch N :=
  ⟨blk_keep T.blk hk h1, T.own.keep hk h2⟩
theorem RTab.keep0 (T : RTab w B rb a cap pat now ch N) (hk : Keep NoB w w') : RTab w' B rb a cap pat now ch N := T.keep hk (fun h => h) (fun _ _ h => h)
theorem RTab.ne (T : RTab w B rb a cap pat now ch N) : ∀ g, (Value.slice a N.length cap).ownBlock = some g → g ≠ rb := T.own.ne T.blk (by decide)
end


/-- Where a name is. -/
def rfind : List RN → ByteArray → Nat → Int
  | [], _, _ => -1
  | x :: N, s, i => if x.1 = s then (i : Int) else rfind N s (i + 1)

theorem find_any (rb B : Nat) (a : Option Addr) (cap : Nat) (pat now ch : Int) (N : List RN) (s : ByteArray) (w : World) (T : RTab w B rb a cap pat now ch N) (hN : N.length ≤ 1000) (v : Int) (hv : rfind N s 0 = v) :
    Calls Try.prog 16 #[.pointer (some ⟨rb, 0, none⟩), .string s] w fun e w' => e = .returned (.int .i64 v) ∧ w' = w := by
  have c0 := blk_cell T.blk 0
  have c1 := blk_cell T.blk 1
  have c2 := blk_cell T.blk 2
  have c3 := blk_cell T.blk 3
  have hlt := blk_lt T.blk
  have O := T.own
  simp at c0 c1 c2 c3
  have Hv := Lib.hid hv
  clear hv T
  go_enter Try.func16, Try.ntmps16
  go_wp2_with fail
  go_loopw [5] (fun i wr => ∃ k : Nat, k ≤ N.length ∧ i = .int .i64 k ∧ wr = w ∧ rfind (N.drop k) s k = v) (fun i _ => N.length - (intOf i).toNat)
  case atStart => exact ⟨0, Nat.zero_le _, rfl, rfl, by simpa using Hv.out⟩
  case round =>
    obtain ⟨k, hk, rfl, rfl, hf⟩ := hrel
    have Hf := Lib.hid hf
    clear hf
    by_cases hlt2 : k < N.length
    · obtain ⟨x, hx⟩ : ∃ x, N[k]? = some x := ⟨_, List.getElem?_eq_getElem hlt2⟩
      obtain ⟨g, cap', hvv, hg1, hg2, hcx⟩ := O.cells rnCells_len hx
      cases hvv
      obtain ⟨xs, xt⟩ := x
      have m0 := hcx 0 _ rfl
      simp only [Nat.add_zero] at m0
      have hd : N.drop k = (xs, xt) :: N.drop (k + 1) := by rw [List.drop_eq_getElem_cons hlt2]; congr 1; rw [List.getElem?_eq_getElem hlt2] at hx; exact Option.some.inj hx
      have Hd := Lib.hid hd
      clear hcx hx hd
      by_cases hxs : xs = s
      · subst hxs
        have hvk : v = (k : Int) := by rw [← Hf.out, Hd.out]; simp [rfind]
        subst hvk
        go_wp2
        go_ret
        exact ⟨rfl, rfl⟩
      · have hsd := tx_ne hxs
        have hnext : rfind (N.drop (k + 1)) s (k + 1) = v := by rw [← Hf.out, Hd.out]; simp [rfind, hxs]
        have Hn := Lib.hid hnext
        clear hnext
        go_wp2_with fail
        go_roundw
        case rel => exact ⟨k + 1, hlt2, by go_num, trivial, Hn.out⟩
        case measure => simp [intOf]; omega
    · have hvk : v = -1 := by rw [← Hf.out, List.drop_eq_nil_of_le (by omega)]; simp [rfind]
      subst hvk
      go_wp2
      go_ret
      exact ⟨rfl, rfl⟩

def livesB (p now last : Int) : Bool := decide (now - last < p)

theorem lives_any (rb B : Nat) (a : Option Addr) (cap : Nat) (pat now ch : Int) (N : List RN) (i : Nat) (at_ : Int) (w : World) (T : RTab w B rb a cap pat now ch N) (hN : N.length ≤ 1000) (x : RN) (hx : N[i]? = some x) (hb : 0 ≤ x.2 ∧ x.2 ≤ 1000 ∧ 0 ≤ at_ ∧ at_ ≤ 1000) (v : Bool) (hv : livesB pat at_ x.2 = v) :
    Calls Try.prog 19 #[.pointer (some ⟨rb, 0, none⟩), .int .i64 i, .int .i64 at_] w fun e w' => e = .returned (.bool v) ∧ Keep NoB w w' := by
  have c0 := blk_cell T.blk 0
  have c1 := blk_cell T.blk 1
  have c2 := blk_cell T.blk 2
  have c3 := blk_cell T.blk 3
  have hlt := blk_lt T.blk
  have O := T.own
  simp at c0 c1 c2 c3
  have hi : i < N.length := (List.getElem?_eq_some_iff.1 hx).1
  obtain ⟨g, cap', hvv, hg1, hg2, hcx⟩ := O.cells rnCells_len hx
  cases hvv
  obtain ⟨xs, xt⟩ := x
  have m1 := hcx 1 _ rfl
  obtain ⟨b1, b2, b3, b4⟩ := hb
  simp only at b1 b2 b3 b4
  unfold livesB at hv
  simp only at hv
  clear hcx hx T O
  go_enter Try.func19, Try.ntmps19
  go_wp2_with fail
  go_quiet (fail)
  go_wp2
  go_ret
  exact ⟨by rw [← hv]; rfl, (Keep.refl NoB w).drewN _⟩

def RV (now : Int) (N : List RN) : Prop := ∀ x ∈ N, 0 ≤ x.2 ∧ x.2 ≤ now
def rlive (p now : Int) (N : List RN) : List ByteArray := (N.filter (fun x => livesB p now x.2)).map (·.1)
theorem take_one {α : Type} {N : List α} {k : Nat} {x : α} (hx : N[k]? = some x) : N.take (k + 1) = N.take k ++ [x] := by
  obtain ⟨h, e⟩ := List.getElem?_eq_some_iff.1 hx
  rw [List.take_succ_eq_append_getElem h, e]
theorem rlive_add (p now : Int) (N : List RN) (x : RN) : rlive p now (N ++ [x]) = if livesB p now x.2 then rlive p now N ++ [x.1] else rlive p now N := by
  unfold rlive
  rw [List.filter_append, List.map_append]
  cases h : livesB p now x.2 <;> simp [h]

theorem info9'' : (Try.prog.info? 9).map (fun i => (i.zero, i.size, i.bytes)) = some (some (.string ⟨#[]⟩), 1, 16) := by kernel_rfl

set_option maxHeartbeats 1000000 in
theorem rlive_any (rb B : Nat) (a : Option Addr) (cap : Nat) (pat now ch : Int) (N : List RN) (w : World) (T : RTab w B rb a cap pat now ch N) (hN : N.length ≤ 1000) (hv : RV now N) (h0 : 0 ≤ now ∧ now ≤ 1000) (V : List ByteArray) (hV : rlive pat now N = V) :
    Calls Try.prog 18 #[.pointer (some ⟨rb, 0, none⟩)] w fun e w' => (∃ a' c', e = .returned (.slice a' V.length c') ∧ Own w' w.heap.size 9 1 cS (.slice a' V.length c') V) ∧ Keep NoB w w' := by
  have Hv := Lib.hid hv
  have HV := Lib.hid hV
  have H0 := Lib.hid h0
  clear hv hV h0
  go_enter Try.func18, Try.ntmps18
  have O0 := Own.empty w (Nat.le_refl _) 9 1 cS
  have hlt := blk_lt T.blk
  have HO0 := Lib.hid O0
  clear O0
  go_wp2_with fail
  go_loopw [3, 4] (fun o i wr => ∃ (k : Nat) (M : List ByteArray) (a' : Option Addr) (c' : Nat), k ≤ N.length ∧ i = .int .i64 k ∧ o = .slice a' M.length c' ∧ Own wr w.heap.size 9 1 cS (.slice a' M.length c') M ∧ M.length ≤ k ∧ rlive pat now (N.take k) = M ∧ Keep NoB w wr) (fun _ i _ => N.length - (intOf i).toNat)
  case atStart => exact ⟨0, [], _, 0, Nat.zero_le _, rfl, rfl, HO0.out, Nat.le_refl _, rfl, (Keep.refl NoB w).alloc _⟩
  case round =>
    obtain ⟨k, M, a', c', hk, rfl, rfl, O', hMk, hM, kr⟩ := hrel
    have HM := Lib.hid hM
    have Tr := T.keep0 kr
    have c0 := blk_cell Tr.blk 0
    have c2 := blk_cell Tr.blk 2
    have hl := blk_lt Tr.blk
    have HT := Lib.hid Tr
    clear hM Tr
    simp at c0 c2
    by_cases hlt2 : k < N.length
    · obtain ⟨x, hx⟩ : ∃ x, N[k]? = some x := ⟨_, List.getElem?_eq_getElem hlt2⟩
      have hxv := Hv.out x (List.mem_of_getElem? hx)
      have hb : 0 ≤ x.2 ∧ x.2 ≤ 1000 ∧ 0 ≤ now ∧ now ≤ 1000 := by have := H0.out; omega
      have hnext : rlive pat now (N.take (k + 1)) = if livesB pat now x.2 then M ++ [x.1] else M := by rw [take_one hx, rlive_add, HM.out]
      have Hnext := Lib.hid hnext
      have Hb := Lib.hid hb
      have Hx := Lib.hid hx
      obtain ⟨v, hv⟩ : ∃ v, livesB pat now x.2 = v := ⟨_, rfl⟩
      have Hvv := Lib.hid hv
      clear hnext hb hx hxv hv
      go_wp2_with fail
      refine (lives_any rb B a cap pat now ch N k now _ HT.out hN x Hx.out Hb.out v Hvv.out).mono ?_
      rintro _ w2 ⟨rfl, k2⟩
      have K2 := kr.trans k2
      have O2 := O'.keep k2 (fun _ _ h => h)
      have T2 := HT.out.keep0 k2
      have d0 := blk_cell T2.blk 0
      have hl2 := blk_lt T2.blk
      obtain ⟨g, cap', hvv, hg1, hg2, hcx⟩ := T2.own.cells rnCells_len Hx.out
      cases hvv
      have m0 := hcx 0 _ rfl
      simp only [Nat.add_zero] at m0
      obtain ⟨xs, xt⟩ := x
      have s2 := K2.size
      simp at d0 m0
      clear hcx T2 k2
      cases v with
      | true =>
        have hn2 : rlive pat now (N.take (k + 1)) = M ++ [xs] := by rw [Hnext.out, Hvv.out]; rfl
        obtain ⟨M', hM'⟩ : ∃ l, M ++ [xs] = l := ⟨_, rfl⟩
        have hM'l : M'.length = M.length + 1 := by rw [← hM']; simp
        rw [hM'] at hn2
        have HM' := Lib.hid hM'
        have HM'l := Lib.hid hM'l
        have Hn2 := Lib.hid hn2
        clear hM' hM'l hn2
        go_wp2_with (first
          | (at_builtin
             refine wpList_append_one rfl (.tmp 22) (.tmp 31) 26 rfl Try.underlying26 info9'' (by kernel_rfl) (by decide) (by decide) rfl (O2.alloc _) cS_len xs rfl (c := #[.string xs]) (t' := 9) (f := (0, 0)) (blk_new w2 _) rfl (cS_one _) (by omega) (by simp; omega) HM'.out ?_
             intro a4 c4 w4 O4 k4
             have hfr := Lib.hid O2.fresh
             have K4 : Keep NoB w w4 := (K2.trans ((Keep.refl NoB w2).alloc _)).trans' k4 (fun i hi e => by have := hfr.out i e; omega)
             clear k4))
        go_roundw
        case rel => exact ⟨k + 1, M', a4, c4, hlt2, by go_num, rfl, O4, by have := HM'l.out; omega, Hn2.out, K4⟩
        case measure => simp [intOf]; omega
      | false =>
        have hn2 : rlive pat now (N.take (k + 1)) = M := by rw [Hnext.out, Hvv.out]; rfl
        have Hn2 := Lib.hid hn2
        clear hn2
        go_wp2_with fail
        go_roundw
        case rel => exact ⟨k + 1, M, a', c', hlt2, by go_num, rfl, O2, by omega, Hn2.out, K2⟩
        case measure => simp [intOf]; omega
    · have hd : decide ((k : Int) < (N.length : Int)) = false := decide_eq_false (by omega)
      have hMV : M = V := by rw [← HM.out, List.take_of_length_le (by omega), HV.out]
      subst hMV
      go_wp2
      go_ret
      exact ⟨⟨a', c', rfl, O'⟩, kr⟩
end Go.Proofs.Ytjfkpjooandpeaa
