/- What New, Note and at come to. -/
import Derived.Test.YtlglnpokfmdpaaaDedupeW
namespace Go.Proofs.Ytlglnpokfmdpaaa
open Go Go.RowKit Go.Maps

theorem law_map (w : World) : MapAt Try.prog 3 encLast (w.alloc (.map #[] 0)) w.heap.size [] := MapAt.made w

/-- New: a table without sessions, in new memory. -/
theorem new_any (limit : Int) (w : World) :
    Calls Try.prog 9 #[.int .i64 limit] w fun e w' => e = .returned (.pointer (some ⟨w.heap.size + 1, 0, none⟩)) ∧ Tab w' (w.heap.size + 1) w.heap.size limit [] ∧ Keep NoB w w' ∧ w'.heap.size = w.heap.size + 2 := by
  have hmm := @run_makeMap Try.prog
  go_enter Try.func9, Try.ntmps9
  go_wp2
  go_ret
  refine ⟨rfl, ⟨?_, ?_⟩, ?_, ?_⟩
  · have := blk_new (w.alloc (.map #[] 0)) (.cells #[.int .i64 limit, .map (some w.heap.size)] 56); simpa using this
  · exact (law_map w).alloc _
  · (repeat (with_reducible first | exact Keep.refl _ _ | assumption | refine Keep.alloc ?_ _ | refine Keep.drewN ?_ _ | refine Keep.drew ?_ | refine Keep.setCell ?_ (by first | (left; simp; done) | (left; simp; omega) | (right; simp [NoB, OneB, TwoB]; done)) _))
  · simp

theorem at_any (i : Int) (w : World) (h0 : 0 ≤ i) (h1 : i < 9223372036854775807) :
    Calls Try.prog 12 #[.int .i64 i] w fun e w' => e = .returned (.agg #[.int .i64 1, .int .i64 (i + 1)]) ∧ Keep NoB w w' := by
  go_enter Try.func12, Try.ntmps12
  go_wp2
  refine bodyPost_ret (v := .agg #[.int .i64 1, .int .i64 (i + 1)]) ?_ rfl ⟨rfl, ?_⟩
  · simp [results, Try.results12, go_sem]
  · (repeat (with_reducible first | exact Keep.refl _ _ | assumption | refine Keep.alloc ?_ _ | refine Keep.drewN ?_ _ | refine Keep.drew ?_ | refine Keep.setCell ?_ (by first | (left; simp; done) | (left; simp; omega) | (right; simp [NoB, OneB, TwoB]; done)) _))

def noteF (limit : Int) (L : List (Lit × Last)) (s r e i : Int) : List (Lit × Last) := if (lookF limit L s r).1 = 1 then lput L (kI s) (r, e, i) else L
def NotePost (tb mb : Nat) (limit : Int) (ok : Bool) (L' : List (Lit × Last)) (w : World) (e : Ending) (w' : World) : Prop :=
  e = .returned (.bool ok) ∧ Tab w' tb mb limit L' ∧ Keep (OneB mb) w w'

theorem note_yes (tb mb : Nat) (limit s r e i : Int) (L : List (Lit × Last)) (w : World) (T : Tab w tb mb limit L) (hne : tb ≠ mb) (hs : (Lit.int .i64 s).wf = true) (hn : L.length < maxLen) (p q : Int) (hl : lookF limit L s r = (1, p, q)) :
    Calls Try.prog 11 #[.pointer (some ⟨tb, 0, none⟩), .int .i64 s, .int .i64 r, .agg #[.int .i64 e, .int .i64 i]] w (NotePost tb mb limit true (lput L (kI s) (r, e, i)) w) := by
  have hkey := keyOf_int_mk Try.underlying3 hs
  go_enter Try.func11, Try.ntmps11
  go_wp2_with fail
  refine (look_any tb mb limit s r L _ (T.keep (S := NoB) (by (repeat (with_reducible first | exact Keep.refl _ _ | assumption | refine Keep.alloc ?_ _ | refine Keep.drewN ?_ _ | refine Keep.drew ?_ | refine Keep.setCell ?_ (by first | (left; simp; done) | (left; simp; omega) | (right; simp [NoB, OneB, TwoB]; done)) _))) (fun h => h) (fun h => h)) hs _ hl).mono ?_
  rintro _ w1 ⟨rfl, hk⟩
  have hsz : w.heap.size < w1.heap.size := by have := hk.size; simp at this; omega
  have hb : w1.heap[w.heap.size]? = some (.cells #[.int .i64 e, .int .i64 i] 29 (0, 0)) := blk_keep (blk_new w _) hk (fun h => h)
  have b0 := blk_cell hb 0
  have b1 := blk_cell hb 1
  have T1 : Tab w1 tb mb limit L := T.keep (S := NoB) (((Keep.refl _ w).alloc _).trans hk) (fun h => h) (fun h => h)
  have c1 := blk_cell T1.blk 1
  have hblk := Lib.hid T.blk
  have hlt := blk_lt T1.blk
  have hm := T1.map
  simp at b0 b1 c1
  have hb' := Lib.hid hb
  clear hb T T1
  go_wp2_with fail
  refine wp_region_tail 8 (by kernel_rfl) (by kernel_rfl) ?_
  simp only [List.take_succ_cons, List.take_zero, List.drop_succ_cons, List.drop_zero]
  repeat still_step
  refine wpStill_nil ?_
  refine wpList_mstore _ rfl _ _ _ 54 rfl 3 58 law3 Try.underlying54 encLast mb L rfl (by repeat (with_reducible first | exact hm | refine MapAt.alloc ?_ _ | refine MapAt.drewN ?_ _ | refine MapAt.drew ?_ | refine MapAt.setCell ?_ (by simp; omega) _)) hn _ _ (r, e, i) rfl rfl hkey ?_
  intro w2 hm2 ht
  go_wp2
  go_ret
  have hk1 : Keep (OneB mb) w w2 := (((((Keep.refl _ w).alloc _).trans hk.none).alloc (.cells #[.int .i64 p, .int .i64 q] 29)).drew).turned ht (Or.inr rfl)
  exact ⟨rfl, ⟨blk_keep hblk.out hk1 hne, hm2⟩, hk1⟩

theorem note_no (tb mb : Nat) (limit s r e i : Int) (L : List (Lit × Last)) (w : World) (T : Tab w tb mb limit L) (hs : (Lit.int .i64 s).wf = true) (c p q : Int) (hc : c ≠ 1) (hl : lookF limit L s r = (c, p, q)) :
    Calls Try.prog 11 #[.pointer (some ⟨tb, 0, none⟩), .int .i64 s, .int .i64 r, .agg #[.int .i64 e, .int .i64 i]] w (NotePost tb mb limit false L w) := by
  have hd : (c != 1) = true := by simpa using hc
  go_enter Try.func11, Try.ntmps11
  go_wp2_with fail
  refine (look_any tb mb limit s r L _ (T.keep (S := NoB) (by (repeat (with_reducible first | exact Keep.refl _ _ | assumption | refine Keep.alloc ?_ _ | refine Keep.drewN ?_ _ | refine Keep.drew ?_ | refine Keep.setCell ?_ (by first | (left; simp; done) | (left; simp; omega) | (right; simp [NoB, OneB, TwoB]; done)) _))) (fun h => h) (fun h => h)) hs _ hl).mono ?_
  rintro _ w1 ⟨rfl, hk⟩
  have hsz : w.heap.size < w1.heap.size := by have := hk.size; simp at this; omega
  go_wp2
  go_ret
  have hk1 : Keep NoB w (w1.alloc (.cells #[.int .i64 p, .int .i64 q] 29)) := (((Keep.refl _ w).alloc _).trans hk).alloc _
  exact ⟨rfl, T.keep hk1 (fun h => h) (fun h => h), hk1.none⟩

theorem note_any (tb mb : Nat) (limit s r e i : Int) (L : List (Lit × Last)) (w : World) (T : Tab w tb mb limit L) (hne : tb ≠ mb) (hs : (Lit.int .i64 s).wf = true) (hn : L.length < maxLen)
    (ok : Bool) (hok : decide ((lookF limit L s r).1 = 1) = ok) (L' : List (Lit × Last)) (hL : noteF limit L s r e i = L') :
    Calls Try.prog 11 #[.pointer (some ⟨tb, 0, none⟩), .int .i64 s, .int .i64 r, .agg #[.int .i64 e, .int .i64 i]] w (NotePost tb mb limit ok L' w) := by
  subst hok hL
  unfold noteF
  obtain ⟨⟨c, p, q⟩, hl⟩ : ∃ v, lookF limit L s r = v := ⟨_, rfl⟩
  rw [hl]
  by_cases hc : c = 1
  · subst hc
    simpa using note_yes tb mb limit s r e i L w T hne hs hn p q hl
  · simpa [hc] using note_no tb mb limit s r e i L w T hs c p q hc hl

theorem len_any (tb mb : Nat) (limit : Int) (L : List (Lit × Last)) (w : World) (T : Tab w tb mb limit L) :
    Calls Try.prog 13 #[.pointer (some ⟨tb, 0, none⟩)] w fun e w' => e = .returned (.int .i64 L.length) ∧ w' = w := by
  have c1 := blk_cell T.blk 1
  have hlen := fun ty => T.map.len Try.underlying54 ty
  clear T
  simp at c1
  go_enter Try.func13, Try.ntmps13
  go_wp2
  go_ret
  exact ⟨rfl, rfl⟩
end Go.Proofs.Ytlglnpokfmdpaaa
