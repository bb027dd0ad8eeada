/- What the reference's detector comes to: Tick, Beat, Same. -/
import Derived.Test.YtjfkpjooandpeaaDetectR
namespace Go.Proofs.Ytjfkpjooandpeaa
open Go Go.RowKit Go.Maps Go.Sort

theorem rn_set (t : Int) : ∀ (N : List RN) (i : Nat) (x : RN), N[i]? = some x → (N.flatMap rnCells).set (i * 2 + 1) (.int .i64 t) = (N.set i (x.1, t)).flatMap rnCells
  | [], i, x, h => by simp at h
  | y :: N, 0, x, h => by
    simp at h
    subst h
    simp [rnCells]
  | y :: N, i + 1, x, h => by
    have h' : N[i]? = some x := by simpa using h
    have ih := rn_set t N i x h'
    have e : (i + 1) * 2 + 1 = (i * 2 + 1) + 2 := by omega
    rw [e]
    simp only [List.flatMap_cons, List.set_cons_succ, ← ih]
    rfl

theorem rfind_cases (s : ByteArray) : ∀ (N : List RN) (j : Nat), (rfind N s j = -1 ∧ ∀ x ∈ N, x.1 ≠ s) ∨
    ∃ i x, rfind N s j = ((j + i : Nat) : Int) ∧ N[i]? = some x ∧ x.1 = s
  | [], j => by simp [rfind]
  | x :: N, j => by
    by_cases h : x.1 = s
    · exact Or.inr ⟨0, x, by simp [rfind, h], by simp, h⟩
    · rcases rfind_cases s N (j + 1) with ⟨h1, h2⟩ | ⟨i, y, h2, h3, h4⟩
      · exact Or.inl ⟨by simp [rfind, h, h1], by intro y hy; rcases List.mem_cons.1 hy with rfl | hy; exact h; exact h2 y hy⟩
      · exact Or.inr ⟨i + 1, y, by simp [rfind, h, h2]; omega, by simpa using h3, h4⟩

def FromB (B : Nat) (j : Nat) : Prop := B ≤ j
/-- The reference's own blocks. -/
def RBk (rb : Nat) (s : Value) (j : Nat) : Prop := j = rb ∨ s.ownBlock = some j
def RPost (rb B : Nat) (s : Value) (pat now ch : Int) (N : List RN) (v : Value) (w : World) (e : Ending) (w' : World) : Prop :=
  e = .returned v ∧ (∃ a cap, RTab w' B rb a cap pat now ch N) ∧ Keep (RBk rb s) w w'

theorem rbeat_no (rb B : Nat) (a : Option Addr) (cap : Nat) (pat now ch : Int) (N : List RN) (s : ByteArray) (w : World) (T : RTab w B rb a cap pat now ch N) (hN : N.length ≤ 1000) (h : rfind N s 0 = -1) :
    Calls Try.prog 15 #[.pointer (some ⟨rb, 0, none⟩), .string s] w fun e w' => e = .returned (.bool false) ∧ w' = w := by
  go_enter Try.func15, Try.ntmps15
  go_wp2_with fail
  refine (find_any rb B a cap pat now ch N s _ T hN _ h).mono ?_
  rintro _ _ ⟨rfl, rfl⟩
  go_wp2
  go_ret
  exact ⟨rfl, rfl⟩

set_option maxHeartbeats 1000000 in
theorem rbeat_yes (rb B : Nat) (a : Option Addr) (cap : Nat) (pat now ch : Int) (N : List RN) (s : ByteArray) (w : World) (T : RTab w B rb a cap pat now ch N) (hB : B ≤ rb) (hN : N.length ≤ 1000) (hv : RV now N) (h0 : 0 ≤ now ∧ now ≤ 1000) (hc : 0 ≤ ch ∧ ch ≤ 1000000) (i : Nat) (x : RN) (h : rfind N s 0 = (i : Int)) (hx : N[i]? = some x) (v : Bool) (ch' : Int) (hl : (livesB pat now x.2 = true ∧ v = false ∧ ch' = ch) ∨ (livesB pat now x.2 = false ∧ v = true ∧ ch' = ch + 1)) :
    Calls Try.prog 15 #[.pointer (some ⟨rb, 0, none⟩), .string s] w (RPost rb B (.slice a N.length cap) pat now ch' (N.set i (x.1, now)) (.bool v) w) := by
  obtain ⟨hc0, hc1⟩ := hc
  have hxv := hv x (List.mem_of_getElem? hx)
  have hb : 0 ≤ x.2 ∧ x.2 ≤ 1000 ∧ 0 ≤ now ∧ now ≤ 1000 := by omega
  have hi : i < N.length := (List.getElem?_eq_some_iff.1 hx).1
  have Hx := Lib.hid hx
  have Hb := Lib.hid hb
  have c0 := blk_cell T.blk 0
  have c2 := blk_cell T.blk 2
  have hlt := blk_lt T.blk
  have HT := Lib.hid T
  clear hv h0 hxv hb hx T
  simp at c0 c2
  obtain ⟨lv, hlv⟩ : ∃ lv, livesB pat now x.2 = lv := ⟨_, rfl⟩
  have Hlv := Lib.hid hlv
  have hl' : (lv = true ∧ v = false ∧ ch' = ch) ∨ (lv = false ∧ v = true ∧ ch' = ch + 1) := by rw [← hlv]; exact hl
  clear hl hlv
  rcases hl' with ⟨rfl, rfl, rfl⟩ | ⟨rfl, rfl, rfl⟩
  all_goals
    go_enter Try.func15, Try.ntmps15
    go_wp2_with fail
    refine (find_any rb B a cap pat now _ N s _ HT.out hN _ h).mono ?_
    rintro _ w ⟨rfl, rfl⟩
    go_wp2_with fail
    refine (lives_any rb B a cap pat now _ N i now _ HT.out hN x Hx.out Hb.out _ Hlv.out).mono ?_
    rintro _ w2 ⟨rfl, k2⟩
    have T2 := HT.out.keep0 k2
    obtain ⟨g, cap', hvv, hg1, hg2, hcx⟩ := T2.own.cells rnCells_len Hx.out
    cases hvv
    have m1 := hcx 1 _ rfl
    have d0 := blk_cell T2.blk 0
    have d2 := blk_cell T2.blk 2
    have d3 := blk_cell T2.blk 3
    have f3 := blk_free T2.blk 3
    have hl2 := blk_lt T2.blk
    have fg : w2.frozen? ⟨g, i * 2 + 1, none⟩ = false := T2.own.free rfl
    have hgr : g ≠ rb := T2.ne g rfl
    have Hb2 := Lib.hid T2.blk
    have HO2 := Lib.hid T2.own
    have hst := Lib.hid (rn_set now N i x Hx.out)
    clear hcx T2
    simp at d0 d2 d3
    go_wp2_with fail
    refine wp_region_tail 11 (by kernel_rfl) (by kernel_rfl) ?_
    simp only [List.take_succ_cons, List.take_zero, List.drop_succ_cons, List.drop_zero]
    repeat still_step
    refine wpStill_nil ?_
    go_wp2_with fail
    have O3 := (World.ownsRow.stored HO2.out (i * 2 + 1) (.int .i64 now)).1
    rw [hst.out] at O3
    have O4 : Own (w2.setCell ⟨g, i * 2 + 1, none⟩ (.int .i64 now)) B 58 2 rnCells (.slice (some ⟨g, 0, none⟩) (N.set i (x.1, now)).length cap) (N.set i (x.1, now)) := by
      unfold Own
      rw [List.length_set]
      exact O3
    have K3 : Keep (RBk rb (.slice (some ⟨g, 0, none⟩) N.length cap)) w (w2.setCell ⟨g, i * 2 + 1, none⟩ (.int .i64 now)) := (k2.none).setCell (p := ⟨g, i * 2 + 1, none⟩) (Or.inr (Or.inr rfl)) _
    have hbl : (w2.setCell ⟨g, i * 2 + 1, none⟩ (.int .i64 now)).heap[rb]? = _ := (Below.heap_setCell w2 ⟨g, i * 2 + 1, none⟩ (.int .i64 now) rb (by simpa using Ne.symm hgr)).trans Hb2.out
    generalize w2.setCell ⟨g, i * 2 + 1, none⟩ (.int .i64 now) = w5 at O4 K3 hbl ⊢
    go_ret
    first
      | exact ⟨rfl, ⟨_, cap, ⟨by rw [List.length_set]; exact blk_drew hbl, O4.keep ((Keep.refl NoB w5).drew) (fun _ _ h => h)⟩⟩, K3.drew⟩
      | (have hb9 := blk_setCell (i := 3) hbl (.int .i64 (ch + 1))
         have k9 : Keep (OneB rb) w5 (w5.setCell ⟨rb, 3, none⟩ (.int .i64 (ch + 1))) := (Keep.refl (OneB rb) w5).setCell (p := ⟨rb, 3, none⟩) (Or.inr rfl) _
         refine ⟨rfl, ⟨_, cap, ⟨?_, (O4.keep k9 (fun g' hg e => by have h1 : g = g' := Option.some.inj hg; have h2 : g' = rb := e; omega)).keep ((Keep.refl NoB _).drew) (fun _ _ h => h)⟩⟩, (K3.trans (k9.mono (fun j e => Or.inl e))).drew⟩
         rw [List.length_set]
         simpa using blk_drew hb9)
end Go.Proofs.Ytjfkpjooandpeaa
