/- Grant in one word; Again; the document's example of lease, asked. -/
import Derived.Test.YtieoejilppgebaaNdLeaseT
namespace Go.Proofs.Ytieoejilppgebaa.Ls
open Go Go.RowKit Go.Maps
set_option maxRecDepth 100000

/-- What a Grant comes to: the token, whether, the last token, the leases. -/
def grantR (limit ticks last : Int) (L : LL) (k : Lit) : Int × Bool × Int × LL :=
  if limit ≤ (L.length : Int) then (0, false, last, L) else
    match lget L k with
    | some _ => (0, false, last, L)
    | none => (last + 1, true, last + 1, lput L k (last + 1, ticks))

theorem grant_any (tb mb : Nat) (limit ticks last : Int) (L : LL) (s : ByteArray) (w : World) (T : Tab w tb mb limit ticks last L) (hs : s.size ≤ maxLen) (hn : L.length < maxLen) (h0 : 0 ≤ last) (h1 : last < 9223372036854775807)
    (v : Int) (ok : Bool) (last' : Int) (L' : LL) (hr : grantR limit ticks last L (kS s) = (v, ok, last', L')) :
    Calls Try.prog 25 #[.pointer (some ⟨tb, 0, none⟩), .string s] w (TabPost tb mb limit ticks last' L' (.tuple #[.int .i64 v, .bool ok]) w) := by
  unfold grantR at hr
  split at hr
  · rename_i hl
    cases hr
    exact grant_full tb mb limit ticks last L s w T hl
  · rename_i hl
    cases hg : lget L (kS s) with
    | some x =>
      rw [hg] at hr
      cases hr
      exact grant_there tb mb limit ticks last L s w T hs hl x.1 x.2 hg
    | none =>
      rw [hg] at hr
      cases hr
      exact grant_new tb mb limit ticks last L s w T hs hn hl hg h0 h1

def AgainPost (limit t' l' : Int) (w : World) (e : Ending) (w' : World) : Prop :=
  ∃ tb mb, e = .returned (.pointer (some ⟨tb, 0, none⟩)) ∧ Tab w' tb mb limit t' l' [] ∧ Keep NoB w w' ∧ w.heap.size ≤ tb ∧ w.heap.size ≤ mb

theorem again_any (limit ticks t' last l' : Int) (w : World) (ht : max ticks 1 = t') (hl : (0 ≤ last ∧ last ≤ 9007199254740992 ∧ l' = last) ∨ (last < 0 ∧ l' = 0) ∨ (9007199254740992 < last ∧ l' = 0)) :
    Calls Try.prog 51 #[.int .i64 limit, .int .i64 ticks, .int .i64 last] w (AgainPost limit t' l' w) := by
  have Hl := Lib.hid hl
  clear hl
  go_enter Try.func51, Try.ntmps51
  go_wp2_with fail
  refine (new_any limit ticks t' _ ht).mono ?_
  rintro _ w1 ⟨rfl, T1, hk1, hs1⟩
  have c3 := blk_cell T1.blk 3
  have f3 := blk_free T1.blk 3
  have HT := Lib.hid T1
  have hm := Lib.hid T1.map
  clear T1 hs1
  simp at c3
  rcases Hl.out with ⟨h1, h2, rfl⟩ | ⟨h1, rfl⟩ | ⟨h1, rfl⟩
  · go_wp2_with fail
    refine (store_any (w.heap.size + 1) 0 l' w1 c3 f3).mono ?_
    rintro _ _ ⟨rfl, rfl⟩
    go_wp2
    go_ret
    refine ⟨w.heap.size + 1, w.heap.size, rfl, ⟨?_, hm.out.setCell (by simp) _⟩, hk1.setCell (Or.inl (by simp)) _, by omega, by omega⟩
    exact blk_setCell (i := 3) HT.out.blk (.int .i64 l')
  · go_wp2
    go_ret
    exact ⟨w.heap.size + 1, w.heap.size, rfl, HT.out, hk1, by omega, by omega⟩
  · go_wp2
    go_ret
    exact ⟨w.heap.size + 1, w.heap.size, rfl, HT.out, hk1, by omega, by omega⟩

def sA : ByteArray := ⟨#[97]⟩
def sB : ByteArray := ⟨#[98]⟩

end Go.Proofs.Ytieoejilppgebaa.Ls
