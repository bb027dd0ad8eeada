/- The document's example of detect, asked. -/
import Derived.Test.YtjfkpjooandpeaaDetectT
namespace Go.Proofs.Ytjfkpjooandpeaa
open Go Go.RowKit Go.Maps Go.Sort

def sA : ByteArray := ⟨#[97]⟩
def sB : ByteArray := ⟨#[98]⟩
def zAB (i : Nat) : ByteArray := if i = 0 then sA else sB

theorem new_ab (w : World) (patience p : Int) (hp : max patience 1 = p) :
    Calls Try.prog 8 #[.int .i64 patience, .slice (some ⟨w.heap.size, 0, none⟩) 2 2] (w.alloc (.cells #[.string sA, .string sB] 9)) fun e w' => e = .returned (.pointer (some ⟨w.heap.size + 2, 0, none⟩)) ∧ Tab w' (w.heap.size + 2) (w.heap.size + 1) p 0 [(kT sA, p), (kT sB, p)] ∧ Keep NoB w w' := by
  have hI : IsStr (w.alloc (.cells #[.string sA, .string sB] 9)) (some ⟨w.heap.size, 0, none⟩) 2 zAB := by
    refine ⟨by decide, ?_, Or.inr ⟨_, _, rfl, by simp, ?_⟩⟩
    · intro i _
      unfold zAB
      split <;> decide
    · intro i hi
      have hb := blk_new w (.cells #[.string sA, .string sB] 9)
      have c0 := blk_cell hb 0
      have c1 := blk_cell hb 1
      rcases i with _ | _ | i
      · exact c0.trans rfl
      · exact c1.trans rfl
      · omega
  refine (new_any patience p _ 2 2 zAB _ hI (by decide) hp).mono ?_
  rintro _ w' ⟨rfl, T, hk, _⟩
  have e : (w.alloc (.cells #[.string sA, .string sB] 9)).heap.size = w.heap.size + 1 := by simp
  rw [e] at T
  refine ⟨by rw [e], T, ((Keep.refl NoB w).alloc _).trans hk⟩

set_option maxHeartbeats 1000000 in
theorem awake_any (w : World) : Calls Try.prog 7 #[] w fun e w' => e = .returned (.bool true) ∧ Keep NoB w w' := by
  go_enter Try.func7, Try.ntmps7
  go_wp2_with fail
  refine (new_ab w 2 2 (by decide)).mono ?_
  rintro _ w1 ⟨rfl, T1, hk1⟩
  have hlo : w.heap.size ≤ w1.heap.size := hk1.size
  obtain ⟨tb, htb⟩ : ∃ tb, w.heap.size + 2 = tb := ⟨_, rfl⟩
  obtain ⟨mb, hmb⟩ : ∃ mb, w.heap.size + 1 = mb := ⟨_, rfl⟩
  rw [htb, hmb] at T1
  have hh1 : w.heap.size ≤ tb := by omega
  have hh2 : w.heap.size ≤ mb := by omega
  rw [htb]
  clear htb hmb
  go_wp2_with fail
  refine (tick_any tb mb 2 0 _ _ T1 (by decide) (by intro p hp; simp at hp; rcases hp with rfl | rfl <;> decide) (by decide) (by decide) [] (by decide)).mono ?_
  rintro _ w2 ⟨a2, c2, rfl, O2, T2, k2⟩
  have T2' : Tab w2 tb mb 2 0 [(kT sA, 1), (kT sB, 1)] := T2
  clear T2
  go_wp2_with fail
  refine (beat_more tb mb 2 0 _ sA _ T2' (by decide) (by decide) 1 (by decide) (by decide)).mono ?_
  rintro _ w3 ⟨rfl, T3, k3⟩
  have T3' : Tab w3 tb mb 2 0 [(kT sA, 2), (kT sB, 1)] := T3
  clear T3
  go_wp2_with fail
  refine (tick_any tb mb 2 0 _ _ T3' (by decide) (by intro p hp; simp at hp; rcases hp with rfl | rfl <;> decide) (by decide) (by decide) [sB] (by decide)).mono ?_
  rintro _ w4 ⟨a4, c4, rfl, O4, T4, k4⟩
  have T4' : Tab w4 tb mb 2 1 [(kT sA, 1), (kT sB, 0)] := T4
  obtain ⟨g, e, hg1, hg2, hc4, _⟩ := O4.cell1 cS_len (j := 0) (x := sB) rfl rfl
  cases e
  have hsb : (sB.toList == [98]) = true := by rw [ByteArray.toList_eq]; rfl
  clear T4
  go_wp2_with fail
  refine (alive_any tb mb 2 1 _ sA _ T4' (by decide) true (by decide)).mono ?_
  rintro _ w4 ⟨rfl, rfl⟩
  go_wp2_with fail
  refine (beat_zero tb mb 2 1 _ sB _ T4' (by decide) (by decide) (by decide) (by decide) (by decide)).mono ?_
  rintro _ w5 ⟨rfl, T5, k5⟩
  go_wp2_with fail
  refine (changes_any tb mb 2 2 _ _ T5).mono ?_
  rintro _ w5 ⟨rfl, rfl⟩
  go_wp2
  go_ret
  refine ⟨rfl, ?_⟩
  have hx : ∀ i, i < w.heap.size → TwoB tb mb i → NoB i := fun i hi e => by rcases e with e | e <;> omega
  exact (((hk1.trans' k2 hx).trans' k3 hx).trans' k4 hx).trans' k5 hx
end Go.Proofs.Ytjfkpjooandpeaa
