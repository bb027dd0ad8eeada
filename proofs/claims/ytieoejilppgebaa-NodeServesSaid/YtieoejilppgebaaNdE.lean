/- What put comes to where the item is as new; Peek. -/
import Derived.Test.YtieoejilppgebaaNdC
import Derived.Test.YtieoejilppgebaaLibKs
namespace Go.Proofs.Ytieoejilppgebaa
open Go Go.RowKit Go.Maps
set_option maxRecDepth 100000




set_option maxHeartbeats 4000000 in
theorem put_old (w : World) (b : NB) (s : NS) (D : Nd w b s) (key : ByteArray) (v : IT) (hks : key.size ≤ maxLen) (xv : IT) (ok : Bool) (hp : pk s.N key = (xv, ok)) (hok : ok = true) (ha : v.a ≤ xv.a) :
    Calls Try.prog 27 #[.pointer (some ⟨b.nb, 0, none⟩), .string key, .agg #[.int .i64 v.e, .int .i64 v.i, .bool v.th, .string v.tx], .int .i64 v.a] w (VPost b s s (.bool true) w) := by
  have d : decide (v.a ≤ xv.a) = true := decide_eq_true ha
  have HD := Lib.hid D
  have Hp := Lib.hid hp
  have k0 : Keep NoB w (w.alloc (.cells #[.int .i64 v.e, .int .i64 v.i, .bool v.th, .string v.tx] 29)) := (Keep.refl NoB w).alloc _
  have r0 := blk_new w (.cells #[.int .i64 v.e, .int .i64 v.i, .bool v.th, .string v.tx] 29)
  have c0 := blk_cell D.blk 0
  have c1 := blk_cell D.blk 1
  have c2 := blk_cell D.blk 2
  have c3 := blk_cell D.blk 3
  have c4 := blk_cell D.blk 4
  have c5 := blk_cell D.blk 5
  have cl := blk_lt D.blk
  simp at c0 c1 c2 c3 c4 c5
  clear D hp
  go_enter Try.func27, Try.ntmps27
  go_wp2_with fail
  refine (peek_all b.cb b.cm s.room s.kept s.N key _ (HD.out.keep0 k0).it hks xv ok Hp.out).mono ?_
  rintro _ w1 ⟨rfl, k1⟩
  have P1 := Lib.hid (NPost.refl0 HD.out (k0.trans k1))
  have b1 := blk_keep r0 k1 (fun h => h)
  obtain ⟨vb, hvb⟩ : ∃ q, w.heap.size = q := ⟨_, rfl⟩
  rw [hvb] at b1
  have Hb1 := Lib.hid b1
  have vl := blk_lt b1
  have nl : b.nb < w1.heap.size := P1.out.D.snb.lt
  clear c0 c1 c2 c3 c4 c5 cl
  clear k0 k1 r0 b1
  cases ok
  · cases hok
  · clear hok
    rw [hvb]
    go_wp2_with fail
    go_ret
    exact ⟨rfl, P1.out.keep0 ((Keep.refl NoB w1).alloc _)⟩
end Go.Proofs.Ytieoejilppgebaa
