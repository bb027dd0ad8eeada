/- What put and Peek of package node come to. -/
import Derived.Test.YtieoejilppgebaaNdB
import Derived.Test.YtieoejilppgebaaLibKs
namespace Go.Proofs.Ytieoejilppgebaa
open Go Go.RowKit Go.Maps
set_option maxRecDepth 100000


def zI : IT := ⟨0, 0, false, ⟨#[]⟩, 0⟩
/-- What a look at the items tells. -/
def pk (N : List TH) (key : ByteArray) : IT × Bool := match It.fnd N key with | some x => (x.v, true) | none => (⟨0, 0, false, ⟨#[]⟩, 0⟩, false)
theorem pk_some {N : List TH} {key : ByteArray} {x : TH} (h : It.fnd N key = some x) : pk N key = (x.v, true) := by unfold pk; rw [h]
theorem pk_none {N : List TH} {key : ByteArray} (h : It.fnd N key = none) : pk N key = (⟨0, 0, false, ⟨#[]⟩, 0⟩, false) := by unfold pk; rw [h]
theorem peek_all (cb cm : Nat) (room kept : Int) (N : List TH) (key : ByteArray) (w : World) (T : It.Lru w cb cm room kept N) (hks : key.size ≤ maxLen) (xv : IT) (ok : Bool) (h : pk N key = (xv, ok)) :
    Calls Try.prog 33 #[.pointer (some ⟨cb, 0, none⟩), .string key] w fun e w' => e = .returned (.tuple #[.agg #[.int .i64 xv.e, .int .i64 xv.i, .bool xv.th, .string xv.tx, .int .i64 xv.a], .bool ok]) ∧ Keep NoB w w' := by
  cases hf : It.fnd N key with
  | none =>
    rw [pk_none hf] at h
    cases h
    refine (It.peek_miss cb cm room kept N key w T hks hf).mono ?_
    rintro _ w' ⟨rfl, hk⟩
    exact ⟨rfl, hk⟩
  | some x =>
    rw [pk_some hf] at h
    cases h
    refine (It.peek_hit cb cm room kept N key x w T hks hf).mono ?_
    rintro _ w' ⟨rfl, hk⟩
    exact ⟨rfl, hk⟩




set_option maxHeartbeats 16000000 in
theorem put_no (w : World) (b : NB) (s : NS) (D : Nd w b s) (key : ByteArray) (v : IT) (hks : key.size ≤ maxLen) (xv : IT) (ok : Bool) (hp : pk s.N key = (xv, ok)) (hok : ok = false ∨ xv.a < v.a) (sz : Int) (hsz : (key.size : Int) + (v.tx.size : Int) + 32 = sz) (hbig : sz ≤ 1000000000) (hn : s.room - s.kept < sz) :
    Calls Try.prog 27 #[.pointer (some ⟨b.nb, 0, none⟩), .string key, .agg #[.int .i64 v.e, .int .i64 v.i, .bool v.th, .string v.tx], .int .i64 v.a] w (VPost b s { s with kept := s.kept, N := It.dropK s.N key } (.bool false) w) := by
  have hw1 : IntKind.i64.wrap ((key.size : Int) + (v.tx.size : Int)) = (key.size : Int) + (v.tx.size : Int) := IntWalk.i64_in _ (by omega)
  have hw2 : IntKind.i64.wrap ((key.size : Int) + (v.tx.size : Int) + 32) = sz := by rw [hsz]; exact IntWalk.i64_in _ (by omega)
  clear hsz
  have HD := Lib.hid D
  have Hp := Lib.hid hp
  have k0 : Keep NoB w (w.alloc (.cells #[.int .i64 v.e, .int .i64 v.i, .bool v.th, .string v.tx] 29)) := (Keep.refl NoB w).alloc _
  have r0 := blk_new w (.cells #[.int .i64 v.e, .int .i64 v.i, .bool v.th, .string v.tx] 29)
  have c0 := blk_cell D.blk 0
  have c1 := blk_cell D.blk 1
  have c2 := blk_cell D.blk 2
  have c3 := blk_cell D.blk 3
  have c4 := blk_cell D.blk 4
  have c5 := blk_cell D.blk 5
  have cl := blk_lt D.blk
  simp at c0 c1 c2 c3 c4 c5
  clear D hp
  go_enter Try.func27, Try.ntmps27
  go_wp2_with fail
  refine (peek_all b.cb b.cm s.room s.kept s.N key _ (HD.out.keep0 k0).it hks xv ok Hp.out).mono ?_
  rintro _ w1 ⟨rfl, k1⟩
  have P1 := Lib.hid (NPost.refl0 HD.out (k0.trans k1))
  have b1 := blk_keep r0 k1 (fun h => h)
  obtain ⟨vb, hvb⟩ : ∃ q, w.heap.size = q := ⟨_, rfl⟩
  rw [hvb] at b1
  have Hb1 := Lib.hid b1
  have vl := blk_lt b1
  have nl : b.nb < w1.heap.size := P1.out.D.snb.lt
  clear c0 c1 c2 c3 c4 c5 cl
  clear k0 k1 r0 b1
  cases ok
  case' true =>
    have d : decide (v.a ≤ xv.a) = false := decide_eq_false (by rcases hok with h | h; cases h; omega)
  all_goals
    clear hok
    rw [hvb]
    go_wp2_with fail
    refine wp_region_pl (fun u => u.cell? ⟨b.nb, 1, none⟩ = some (.pointer (some ⟨b.cb, 0, none⟩)) ∧ u.cell? ⟨vb, 0, none⟩ = some (.int .i64 v.e) ∧ u.cell? ⟨vb, 1, none⟩ = some (.int .i64 v.i) ∧ u.cell? ⟨vb, 2, none⟩ = some (.bool v.th) ∧ u.cell? ⟨vb, 3, none⟩ = some (.string v.tx)) [] (.rd 0 (.rd 1 (.rd 2 (.rd 3 (.rd 4 (.rd 5 (.rd 6 (.rd 7 (.rd 8 (.rd 9 (.rd 10 (.rd 11 (.rd 12 (.rd 13 (.rd 14 (.one 15 (.rd 16 (.rd 17 (.rd 18 (.one 19 (.one 20 .done))))))))))))))))))))) (by kernel_rfl) (by kernel_rfl) (by kernel_rfl) (by kernel_rfl) (by intro c b d v u h; cases d <;> exact h) ?_
    have kd0 : Keep NoB w1 (w1.alloc (.cells #[.int .i64 xv.e, .int .i64 xv.i, .bool xv.th, .string xv.tx, .int .i64 xv.a] 77)).drew := ((Keep.refl NoB w1).alloc _).drew
    have P2 := Lib.hid (P1.out.keep0 kd0)
    have b2 := blk_keep Hb1.out kd0 (fun h => h)
    generalize (World.alloc w1 (.cells #[.int .i64 xv.e, .int .i64 xv.i, .bool xv.th, .string xv.tx, .int .i64 xv.a] 77)).drew = V at P2 b2 ⊢
    have e1 := blk_cell P2.out.D.blk 1
    have q0 := blk_cell b2 0
    have q1 := blk_cell b2 1
    have q2 := blk_cell b2 2
    have q3 := blk_cell b2 3
    simp at e1 q0 q1 q2 q3
    have HS0 := Lib.hid (show V.cell? ⟨b.nb, 1, none⟩ = some (.pointer (some ⟨b.cb, 0, none⟩)) ∧ V.cell? ⟨vb, 0, none⟩ = some (.int .i64 v.e) ∧ V.cell? ⟨vb, 1, none⟩ = some (.int .i64 v.i) ∧ V.cell? ⟨vb, 2, none⟩ = some (.bool v.th) ∧ V.cell? ⟨vb, 3, none⟩ = some (.string v.tx) from ⟨e1, q0, q1, q2, q3⟩)
    have Hb2 := Lib.hid b2
    clear e1 q0 q1 q2 q3 b2 kd0
    first
      | refine pl_get (i := 0) rfl rfl HS0.out rfl (fun u hu => by (try dsimp only at hu); go_simp; rfl) (by simp only [List.setIfInBounds_toArray, List.set_cons_succ, List.set_cons_zero]; rfl) ?_
      | refine pl_skip (i := 0) rfl rfl HS0.out rfl (by simp only [List.setIfInBounds_toArray, List.set_cons_succ, List.set_cons_zero]; rfl) ?_
    first
      | refine pl_get (i := 1) rfl rfl HS0.out rfl (fun u hu => by (try dsimp only at hu); go_simp; rfl) (by simp only [List.setIfInBounds_toArray, List.set_cons_succ, List.set_cons_zero]; rfl) ?_
      | refine pl_skip (i := 1) rfl rfl HS0.out rfl (by simp only [List.setIfInBounds_toArray, List.set_cons_succ, List.set_cons_zero]; rfl) ?_
    first
      | refine pl_get (i := 2) rfl rfl HS0.out rfl (fun u hu => by (try dsimp only at hu); go_simp; rfl) (by simp only [List.setIfInBounds_toArray, List.set_cons_succ, List.set_cons_zero]; rfl) ?_
      | refine pl_skip (i := 2) rfl rfl HS0.out rfl (by simp only [List.setIfInBounds_toArray, List.set_cons_succ, List.set_cons_zero]; rfl) ?_
    first
      | refine pl_get (i := 3) rfl rfl HS0.out rfl (fun u hu => by (try dsimp only at hu); go_simp; rfl) (by simp only [List.setIfInBounds_toArray, List.set_cons_succ, List.set_cons_zero]; rfl) ?_
      | refine pl_skip (i := 3) rfl rfl HS0.out rfl (by simp only [List.setIfInBounds_toArray, List.set_cons_succ, List.set_cons_zero]; rfl) ?_
    first
      | refine pl_get (i := 4) rfl rfl HS0.out rfl (fun u hu => by (try dsimp only at hu); go_simp; rfl) (by simp only [List.setIfInBounds_toArray, List.set_cons_succ, List.set_cons_zero]; rfl) ?_
      | refine pl_skip (i := 4) rfl rfl HS0.out rfl (by simp only [List.setIfInBounds_toArray, List.set_cons_succ, List.set_cons_zero]; rfl) ?_
    first
      | refine pl_get (i := 5) rfl rfl HS0.out rfl (fun u hu => by (try dsimp only at hu); go_simp; rfl) (by simp only [List.setIfInBounds_toArray, List.set_cons_succ, List.set_cons_zero]; rfl) ?_
      | refine pl_skip (i := 5) rfl rfl HS0.out rfl (by simp only [List.setIfInBounds_toArray, List.set_cons_succ, List.set_cons_zero]; rfl) ?_
    first
      | refine pl_get (i := 6) rfl rfl HS0.out rfl (fun u hu => by (try dsimp only at hu); go_simp; rfl) (by simp only [List.setIfInBounds_toArray, List.set_cons_succ, List.set_cons_zero]; rfl) ?_
      | refine pl_skip (i := 6) rfl rfl HS0.out rfl (by simp only [List.setIfInBounds_toArray, List.set_cons_succ, List.set_cons_zero]; rfl) ?_
    first
      | refine pl_get (i := 7) rfl rfl HS0.out rfl (fun u hu => by (try dsimp only at hu); go_simp; rfl) (by simp only [List.setIfInBounds_toArray, List.set_cons_succ, List.set_cons_zero]; rfl) ?_
      | refine pl_skip (i := 7) rfl rfl HS0.out rfl (by simp only [List.setIfInBounds_toArray, List.set_cons_succ, List.set_cons_zero]; rfl) ?_
    first
      | refine pl_get (i := 8) rfl rfl HS0.out rfl (fun u hu => by (try dsimp only at hu); go_simp; rfl) (by simp only [List.setIfInBounds_toArray, List.set_cons_succ, List.set_cons_zero]; rfl) ?_
      | refine pl_skip (i := 8) rfl rfl HS0.out rfl (by simp only [List.setIfInBounds_toArray, List.set_cons_succ, List.set_cons_zero]; rfl) ?_
    first
      | refine pl_get (i := 9) rfl rfl HS0.out rfl (fun u hu => by (try dsimp only at hu); go_simp; rfl) (by simp only [List.setIfInBounds_toArray, List.set_cons_succ, List.set_cons_zero]; rfl) ?_
      | refine pl_skip (i := 9) rfl rfl HS0.out rfl (by simp only [List.setIfInBounds_toArray, List.set_cons_succ, List.set_cons_zero]; rfl) ?_
    first
      | refine pl_get (i := 10) rfl rfl HS0.out rfl (fun u hu => by (try dsimp only at hu); go_simp; rfl) (by simp only [List.setIfInBounds_toArray, List.set_cons_succ, List.set_cons_zero]; rfl) ?_
      | refine pl_skip (i := 10) rfl rfl HS0.out rfl (by simp only [List.setIfInBounds_toArray, List.set_cons_succ, List.set_cons_zero]; rfl) ?_
    first
      | refine pl_get (i := 11) rfl rfl HS0.out rfl (fun u hu => by (try dsimp only at hu); go_simp; rfl) (by simp only [List.setIfInBounds_toArray, List.set_cons_succ, List.set_cons_zero]; rfl) ?_
      | refine pl_skip (i := 11) rfl rfl HS0.out rfl (by simp only [List.setIfInBounds_toArray, List.set_cons_succ, List.set_cons_zero]; rfl) ?_
    first
      | refine pl_get (i := 12) rfl rfl HS0.out rfl (fun u hu => by (try dsimp only at hu); go_simp; rfl) (by simp only [List.setIfInBounds_toArray, List.set_cons_succ, List.set_cons_zero]; rfl) ?_
      | refine pl_skip (i := 12) rfl rfl HS0.out rfl (by simp only [List.setIfInBounds_toArray, List.set_cons_succ, List.set_cons_zero]; rfl) ?_
    first
      | refine pl_get (i := 13) rfl rfl HS0.out rfl (fun u hu => by (try dsimp only at hu); go_simp; rfl) (by simp only [List.setIfInBounds_toArray, List.set_cons_succ, List.set_cons_zero]; rfl) ?_
      | refine pl_skip (i := 13) rfl rfl HS0.out rfl (by simp only [List.setIfInBounds_toArray, List.set_cons_succ, List.set_cons_zero]; rfl) ?_
    first
      | refine pl_get (i := 14) rfl rfl HS0.out rfl (fun u hu => by (try dsimp only at hu); go_simp; rfl) (by simp only [List.setIfInBounds_toArray, List.set_cons_succ, List.set_cons_zero]; rfl) ?_
      | refine pl_skip (i := 14) rfl rfl HS0.out rfl (by simp only [List.setIfInBounds_toArray, List.set_cons_succ, List.set_cons_zero]; rfl) ?_
    refine pl_one (i := 15) rfl ?_
    go_wp2_with ((go_at_call 56; refine (It.put_no b.cb b.cm s.room s.kept s.N key sz v _ P2.out.D.it hks (Or.inr hn)).mono ?_; rintro _ w3 ⟨rfl, T3, k3⟩))
    have P3 := P2.out.D.setI T3 k3 (fun x hx => Or.inl (It.dropK_mem hx).1)
    have b3 := P3.blk Hb2.out P2.out.D (by decide) (by decide) (by decide) (by decide) (by decide) (by decide)
    have P4 := Lib.hid (P2.out.trans P3)
    have e1 := blk_cell P3.D.blk 1
    have q0 := blk_cell b3 0
    have q1 := blk_cell b3 1
    have q2 := blk_cell b3 2
    have q3 := blk_cell b3 3
    simp at e1 q0 q1 q2 q3
    have HS1 := Lib.hid (show w3.cell? ⟨b.nb, 1, none⟩ = some (.pointer (some ⟨b.cb, 0, none⟩)) ∧ w3.cell? ⟨vb, 0, none⟩ = some (.int .i64 v.e) ∧ w3.cell? ⟨vb, 1, none⟩ = some (.int .i64 v.i) ∧ w3.cell? ⟨vb, 2, none⟩ = some (.bool v.th) ∧ w3.cell? ⟨vb, 3, none⟩ = some (.string v.tx) from ⟨e1, q0, q1, q2, q3⟩)
    clear e1 q0 q1 q2 q3 b3 P3 T3 k3
    refine pl_next (fun _ => HS1.out) ?_
    first
      | refine pl_get (i := 16) rfl rfl HS1.out rfl (fun u hu => by (try dsimp only at hu); go_simp; rfl) (by simp only [List.setIfInBounds_toArray, List.set_cons_succ, List.set_cons_zero]; rfl) ?_
      | refine pl_skip (i := 16) rfl rfl HS1.out rfl (by simp only [List.setIfInBounds_toArray, List.set_cons_succ, List.set_cons_zero]; rfl) ?_
    first
      | refine pl_get (i := 17) rfl rfl HS1.out rfl (fun u hu => by (try dsimp only at hu); go_simp; rfl) (by simp only [List.setIfInBounds_toArray, List.set_cons_succ, List.set_cons_zero]; rfl) ?_
      | refine pl_skip (i := 17) rfl rfl HS1.out rfl (by simp only [List.setIfInBounds_toArray, List.set_cons_succ, List.set_cons_zero]; rfl) ?_
    first
      | refine pl_get (i := 18) rfl rfl HS1.out rfl (fun u hu => by (try dsimp only at hu); go_simp; rfl) (by simp only [List.setIfInBounds_toArray, List.set_cons_succ, List.set_cons_zero]; rfl) ?_
      | refine pl_skip (i := 18) rfl rfl HS1.out rfl (by simp only [List.setIfInBounds_toArray, List.set_cons_succ, List.set_cons_zero]; rfl) ?_
    refine pl_one (i := 19) rfl ?_
    go_wp2_with (fail)
    refine pl_next (fun _ => HS1.out) ?_
    refine pl_one (i := 20) rfl ?_
    go_wp2_with (fail)
    refine pl_next (fun _ => HS1.out) ?_
    refine pl_done ?_
    go_wp2_with fail
    go_ret
    first | exact ⟨rfl, P4.out⟩ | exact ⟨_, rfl, P4.out⟩

def PutN (b : NB) (s : NS) (key : ByteArray) (v : IT) (sz : Int) (M : List TH) (w : World) (e : Ending) (w' : World) : Prop :=
  ∃ xb, e = .returned (.bool true) ∧ NPost w w' b s { s with kept := s.kept, N := ⟨xb, key, v, sz⟩ :: M }
set_option maxHeartbeats 16000000 in
theorem put_new (w : World) (b : NB) (s : NS) (D : Nd w b s) (key : ByteArray) (v : IT) (hks : key.size ≤ maxLen) (xv : IT) (ok : Bool) (hp : pk s.N key = (xv, ok)) (hok : ok = false ∨ xv.a < v.a) (sz : Int) (hsz : (key.size : Int) + (v.tx.size : Int) + 32 = sz) (hbig : sz ≤ 1000000000) (hn : sz ≤ s.room - s.kept) (hlen : s.N.length ≤ 100000) (M : List TH) (gone : List ByteArray)
    (hM : (It.dropK s.N key).take (It.wayJ (s.room - sz - s.kept) (It.dropK s.N key) (It.dropK s.N key).length) = M) (hg : It.goneK (It.dropK s.N key) (It.wayJ (s.room - sz - s.kept) (It.dropK s.N key) (It.dropK s.N key).length) = gone) :
    Calls Try.prog 27 #[.pointer (some ⟨b.nb, 0, none⟩), .string key, .agg #[.int .i64 v.e, .int .i64 v.i, .bool v.th, .string v.tx], .int .i64 v.a] w (PutN b s key v sz M w) := by
  have hw1 : IntKind.i64.wrap ((key.size : Int) + (v.tx.size : Int)) = (key.size : Int) + (v.tx.size : Int) := IntWalk.i64_in _ (by omega)
  have hw2 : IntKind.i64.wrap ((key.size : Int) + (v.tx.size : Int) + 32) = sz := by rw [hsz]; exact IntWalk.i64_in _ (by omega)
  have hsz0 : 0 ≤ sz := by omega
  have hMN : ∀ x ∈ M, x ∈ s.N := fun x hx => by rw [← hM] at hx; exact (It.dropK_mem (List.mem_of_mem_take hx)).1
  have HMN := Lib.hid hMN
  have HM := Lib.hid hM
  have Hg := Lib.hid hg
  clear hsz hM hg hMN
  have HD := Lib.hid D
  have Hp := Lib.hid hp
  have k0 : Keep NoB w (w.alloc (.cells #[.int .i64 v.e, .int .i64 v.i, .bool v.th, .string v.tx] 29)) := (Keep.refl NoB w).alloc _
  have r0 := blk_new w (.cells #[.int .i64 v.e, .int .i64 v.i, .bool v.th, .string v.tx] 29)
  have c0 := blk_cell D.blk 0
  have c1 := blk_cell D.blk 1
  have c2 := blk_cell D.blk 2
  have c3 := blk_cell D.blk 3
  have c4 := blk_cell D.blk 4
  have c5 := blk_cell D.blk 5
  have cl := blk_lt D.blk
  simp at c0 c1 c2 c3 c4 c5
  clear D hp
  go_enter Try.func27, Try.ntmps27
  go_wp2_with fail
  refine (peek_all b.cb b.cm s.room s.kept s.N key _ (HD.out.keep0 k0).it hks xv ok Hp.out).mono ?_
  rintro _ w1 ⟨rfl, k1⟩
  have P1 := Lib.hid (NPost.refl0 HD.out (k0.trans k1))
  have b1 := blk_keep r0 k1 (fun h => h)
  obtain ⟨vb, hvb⟩ : ∃ q, w.heap.size = q := ⟨_, rfl⟩
  rw [hvb] at b1
  have Hb1 := Lib.hid b1
  have vl := blk_lt b1
  have nl : b.nb < w1.heap.size := P1.out.D.snb.lt
  clear c0 c1 c2 c3 c4 c5 cl
  clear k0 k1 r0 b1
  cases ok
  case' true =>
    have d : decide (v.a ≤ xv.a) = false := decide_eq_false (by rcases hok with h | h; cases h; omega)
  all_goals
    clear hok
    rw [hvb]
    go_wp2_with fail
    refine wp_region_pl (fun u => u.cell? ⟨b.nb, 1, none⟩ = some (.pointer (some ⟨b.cb, 0, none⟩)) ∧ u.cell? ⟨vb, 0, none⟩ = some (.int .i64 v.e) ∧ u.cell? ⟨vb, 1, none⟩ = some (.int .i64 v.i) ∧ u.cell? ⟨vb, 2, none⟩ = some (.bool v.th) ∧ u.cell? ⟨vb, 3, none⟩ = some (.string v.tx)) [] (.rd 0 (.rd 1 (.rd 2 (.rd 3 (.rd 4 (.rd 5 (.rd 6 (.rd 7 (.rd 8 (.rd 9 (.rd 10 (.rd 11 (.rd 12 (.rd 13 (.rd 14 (.one 15 (.rd 16 (.rd 17 (.rd 18 (.one 19 (.one 20 .done))))))))))))))))))))) (by kernel_rfl) (by kernel_rfl) (by kernel_rfl) (by kernel_rfl) (by intro c b d v u h; cases d <;> exact h) ?_
    have kd0 : Keep NoB w1 (w1.alloc (.cells #[.int .i64 xv.e, .int .i64 xv.i, .bool xv.th, .string xv.tx, .int .i64 xv.a] 77)).drew := ((Keep.refl NoB w1).alloc _).drew
    have P2 := Lib.hid (P1.out.keep0 kd0)
    have b2 := blk_keep Hb1.out kd0 (fun h => h)
    generalize (World.alloc w1 (.cells #[.int .i64 xv.e, .int .i64 xv.i, .bool xv.th, .string xv.tx, .int .i64 xv.a] 77)).drew = V at P2 b2 ⊢
    have e1 := blk_cell P2.out.D.blk 1
    have q0 := blk_cell b2 0
    have q1 := blk_cell b2 1
    have q2 := blk_cell b2 2
    have q3 := blk_cell b2 3
    simp at e1 q0 q1 q2 q3
    have HS0 := Lib.hid (show V.cell? ⟨b.nb, 1, none⟩ = some (.pointer (some ⟨b.cb, 0, none⟩)) ∧ V.cell? ⟨vb, 0, none⟩ = some (.int .i64 v.e) ∧ V.cell? ⟨vb, 1, none⟩ = some (.int .i64 v.i) ∧ V.cell? ⟨vb, 2, none⟩ = some (.bool v.th) ∧ V.cell? ⟨vb, 3, none⟩ = some (.string v.tx) from ⟨e1, q0, q1, q2, q3⟩)
    have Hb2 := Lib.hid b2
    clear e1 q0 q1 q2 q3 b2 kd0
    first
      | refine pl_get (i := 0) rfl rfl HS0.out rfl (fun u hu => by (try dsimp only at hu); go_simp; rfl) (by simp only [List.setIfInBounds_toArray, List.set_cons_succ, List.set_cons_zero]; rfl) ?_
      | refine pl_skip (i := 0) rfl rfl HS0.out rfl (by simp only [List.setIfInBounds_toArray, List.set_cons_succ, List.set_cons_zero]; rfl) ?_
    first
      | refine pl_get (i := 1) rfl rfl HS0.out rfl (fun u hu => by (try dsimp only at hu); go_simp; rfl) (by simp only [List.setIfInBounds_toArray, List.set_cons_succ, List.set_cons_zero]; rfl) ?_
      | refine pl_skip (i := 1) rfl rfl HS0.out rfl (by simp only [List.setIfInBounds_toArray, List.set_cons_succ, List.set_cons_zero]; rfl) ?_
    first
      | refine pl_get (i := 2) rfl rfl HS0.out rfl (fun u hu => by (try dsimp only at hu); go_simp; rfl) (by simp only [List.setIfInBounds_toArray, List.set_cons_succ, List.set_cons_zero]; rfl) ?_
      | refine pl_skip (i := 2) rfl rfl HS0.out rfl (by simp only [List.setIfInBounds_toArray, List.set_cons_succ, List.set_cons_zero]; rfl) ?_
    first
      | refine pl_get (i := 3) rfl rfl HS0.out rfl (fun u hu => by (try dsimp only at hu); go_simp; rfl) (by simp only [List.setIfInBounds_toArray, List.set_cons_succ, List.set_cons_zero]; rfl) ?_
      | refine pl_skip (i := 3) rfl rfl HS0.out rfl (by simp only [List.setIfInBounds_toArray, List.set_cons_succ, List.set_cons_zero]; rfl) ?_
    first
      | refine pl_get (i := 4) rfl rfl HS0.out rfl (fun u hu => by (try dsimp only at hu); go_simp; rfl) (by simp only [List.setIfInBounds_toArray, List.set_cons_succ, List.set_cons_zero]; rfl) ?_
      | refine pl_skip (i := 4) rfl rfl HS0.out rfl (by simp only [List.setIfInBounds_toArray, List.set_cons_succ, List.set_cons_zero]; rfl) ?_
    first
      | refine pl_get (i := 5) rfl rfl HS0.out rfl (fun u hu => by (try dsimp only at hu); go_simp; rfl) (by simp only [List.setIfInBounds_toArray, List.set_cons_succ, List.set_cons_zero]; rfl) ?_
      | refine pl_skip (i := 5) rfl rfl HS0.out rfl (by simp only [List.setIfInBounds_toArray, List.set_cons_succ, List.set_cons_zero]; rfl) ?_
    first
      | refine pl_get (i := 6) rfl rfl HS0.out rfl (fun u hu => by (try dsimp only at hu); go_simp; rfl) (by simp only [List.setIfInBounds_toArray, List.set_cons_succ, List.set_cons_zero]; rfl) ?_
      | refine pl_skip (i := 6) rfl rfl HS0.out rfl (by simp only [List.setIfInBounds_toArray, List.set_cons_succ, List.set_cons_zero]; rfl) ?_
    first
      | refine pl_get (i := 7) rfl rfl HS0.out rfl (fun u hu => by (try dsimp only at hu); go_simp; rfl) (by simp only [List.setIfInBounds_toArray, List.set_cons_succ, List.set_cons_zero]; rfl) ?_
      | refine pl_skip (i := 7) rfl rfl HS0.out rfl (by simp only [List.setIfInBounds_toArray, List.set_cons_succ, List.set_cons_zero]; rfl) ?_
    first
      | refine pl_get (i := 8) rfl rfl HS0.out rfl (fun u hu => by (try dsimp only at hu); go_simp; rfl) (by simp only [List.setIfInBounds_toArray, List.set_cons_succ, List.set_cons_zero]; rfl) ?_
      | refine pl_skip (i := 8) rfl rfl HS0.out rfl (by simp only [List.setIfInBounds_toArray, List.set_cons_succ, List.set_cons_zero]; rfl) ?_
    first
      | refine pl_get (i := 9) rfl rfl HS0.out rfl (fun u hu => by (try dsimp only at hu); go_simp; rfl) (by simp only [List.setIfInBounds_toArray, List.set_cons_succ, List.set_cons_zero]; rfl) ?_
      | refine pl_skip (i := 9) rfl rfl HS0.out rfl (by simp only [List.setIfInBounds_toArray, List.set_cons_succ, List.set_cons_zero]; rfl) ?_
    first
      | refine pl_get (i := 10) rfl rfl HS0.out rfl (fun u hu => by (try dsimp only at hu); go_simp; rfl) (by simp only [List.setIfInBounds_toArray, List.set_cons_succ, List.set_cons_zero]; rfl) ?_
      | refine pl_skip (i := 10) rfl rfl HS0.out rfl (by simp only [List.setIfInBounds_toArray, List.set_cons_succ, List.set_cons_zero]; rfl) ?_
    first
      | refine pl_get (i := 11) rfl rfl HS0.out rfl (fun u hu => by (try dsimp only at hu); go_simp; rfl) (by simp only [List.setIfInBounds_toArray, List.set_cons_succ, List.set_cons_zero]; rfl) ?_
      | refine pl_skip (i := 11) rfl rfl HS0.out rfl (by simp only [List.setIfInBounds_toArray, List.set_cons_succ, List.set_cons_zero]; rfl) ?_
    first
      | refine pl_get (i := 12) rfl rfl HS0.out rfl (fun u hu => by (try dsimp only at hu); go_simp; rfl) (by simp only [List.setIfInBounds_toArray, List.set_cons_succ, List.set_cons_zero]; rfl) ?_
      | refine pl_skip (i := 12) rfl rfl HS0.out rfl (by simp only [List.setIfInBounds_toArray, List.set_cons_succ, List.set_cons_zero]; rfl) ?_
    first
      | refine pl_get (i := 13) rfl rfl HS0.out rfl (fun u hu => by (try dsimp only at hu); go_simp; rfl) (by simp only [List.setIfInBounds_toArray, List.set_cons_succ, List.set_cons_zero]; rfl) ?_
      | refine pl_skip (i := 13) rfl rfl HS0.out rfl (by simp only [List.setIfInBounds_toArray, List.set_cons_succ, List.set_cons_zero]; rfl) ?_
    first
      | refine pl_get (i := 14) rfl rfl HS0.out rfl (fun u hu => by (try dsimp only at hu); go_simp; rfl) (by simp only [List.setIfInBounds_toArray, List.set_cons_succ, List.set_cons_zero]; rfl) ?_
      | refine pl_skip (i := 14) rfl rfl HS0.out rfl (by simp only [List.setIfInBounds_toArray, List.set_cons_succ, List.set_cons_zero]; rfl) ?_
    refine pl_one (i := 15) rfl ?_
    go_wp2_with ((go_at_call 56; refine (It.put_ok b.cb b.cm s.room s.kept s.N key sz v _ P2.out.D.it hks hsz0 hn hlen M gone HM.out Hg.out).mono ?_; rintro _ w3 ⟨a3, c3, xb, rfl, hxb, O3, T3, k3⟩))
    have P3 := P2.out.D.setI T3 k3 (fun x hx => (List.mem_cons.1 hx).elim (fun e => by subst e; exact Or.inr hxb) (fun h => Or.inl (HMN.out x h)))
    have b3 := P3.blk Hb2.out P2.out.D (by decide) (by decide) (by decide) (by decide) (by decide) (by decide)
    have P4 := Lib.hid (P2.out.trans P3)
    have e1 := blk_cell P3.D.blk 1
    have q0 := blk_cell b3 0
    have q1 := blk_cell b3 1
    have q2 := blk_cell b3 2
    have q3 := blk_cell b3 3
    simp at e1 q0 q1 q2 q3
    have HS1 := Lib.hid (show w3.cell? ⟨b.nb, 1, none⟩ = some (.pointer (some ⟨b.cb, 0, none⟩)) ∧ w3.cell? ⟨vb, 0, none⟩ = some (.int .i64 v.e) ∧ w3.cell? ⟨vb, 1, none⟩ = some (.int .i64 v.i) ∧ w3.cell? ⟨vb, 2, none⟩ = some (.bool v.th) ∧ w3.cell? ⟨vb, 3, none⟩ = some (.string v.tx) from ⟨e1, q0, q1, q2, q3⟩)
    clear e1 q0 q1 q2 q3 b3 P3 T3 k3
    refine pl_next (fun _ => HS1.out) ?_
    first
      | refine pl_get (i := 16) rfl rfl HS1.out rfl (fun u hu => by (try dsimp only at hu); go_simp; rfl) (by simp only [List.setIfInBounds_toArray, List.set_cons_succ, List.set_cons_zero]; rfl) ?_
      | refine pl_skip (i := 16) rfl rfl HS1.out rfl (by simp only [List.setIfInBounds_toArray, List.set_cons_succ, List.set_cons_zero]; rfl) ?_
    first
      | refine pl_get (i := 17) rfl rfl HS1.out rfl (fun u hu => by (try dsimp only at hu); go_simp; rfl) (by simp only [List.setIfInBounds_toArray, List.set_cons_succ, List.set_cons_zero]; rfl) ?_
      | refine pl_skip (i := 17) rfl rfl HS1.out rfl (by simp only [List.setIfInBounds_toArray, List.set_cons_succ, List.set_cons_zero]; rfl) ?_
    first
      | refine pl_get (i := 18) rfl rfl HS1.out rfl (fun u hu => by (try dsimp only at hu); go_simp; rfl) (by simp only [List.setIfInBounds_toArray, List.set_cons_succ, List.set_cons_zero]; rfl) ?_
      | refine pl_skip (i := 18) rfl rfl HS1.out rfl (by simp only [List.setIfInBounds_toArray, List.set_cons_succ, List.set_cons_zero]; rfl) ?_
    refine pl_one (i := 19) rfl ?_
    go_wp2_with (fail)
    refine pl_next (fun _ => HS1.out) ?_
    refine pl_one (i := 20) rfl ?_
    go_wp2_with (fail)
    refine pl_next (fun _ => HS1.out) ?_
    refine pl_done ?_
    go_wp2_with fail
    go_ret
    first | exact ⟨rfl, P4.out⟩ | exact ⟨_, rfl, P4.out⟩
end Go.Proofs.Ytieoejilppgebaa
