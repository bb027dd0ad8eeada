/- What New and Get of package node come to. -/
import Derived.Test.YtieoejilppgebaaNdA
import Derived.Test.YtieoejilppgebaaLibReg2
namespace Go.Proofs.Ytieoejilppgebaa
open Go Go.RowKit Go.Maps
set_option maxRecDepth 100000

def kS (s : ByteArray) : Lit := .string s.data.toList



/-- An Answer. -/
abbrev ansV (k : Int) (v : IT) (t : Int) : Value := .agg #[.int .i64 k, .int .i64 v.e, .int .i64 v.i, .bool v.th, .string v.tx, .int .i64 v.a, .int .i64 t]

/-! ### New -/
def AgainP (room' last' : Int) (w : World) (e : Ending) (w' : World) : Prop :=
  ∃ b : NB, e = .returned (.pointer (some ⟨b.nb, 0, none⟩)) ∧ Nd w' b ⟨[], room', 0, [], last', [], 0, [], false, 0⟩ ∧ Keep NoB w w' ∧ ∀ k, NK b [] k → w.heap.size ≤ k

set_option maxHeartbeats 4000000 in
theorem again_any (room room' last last' : Int) (w : World) (hr : max room 0 = room') (h1 : room' ≤ 9223372036854775807) (hl : (0 ≤ last ∧ last ≤ 9007199254740992 ∧ last' = last) ∨ (last < 0 ∧ last' = 0) ∨ (9007199254740992 < last ∧ last' = 0)) :
    Calls Try.prog 22 #[.int .i64 room, .int .i64 last] w (AgainP room' last' w) := by
  have Hr := Lib.hid hr
  have Hl := Lib.hid hl
  clear hr hl
  go_enter Try.func22, Try.ntmps22
  go_wp2_with fail
  refine (Mk.new_any 32 _).mono ?_
  rintro _ w1 ⟨rfl, T1, k1, s1⟩
  have HT1 := Lib.hid T1
  have Hs1 := Lib.hid s1
  clear T1 s1
  go_wp2_with fail
  refine (It.new_any room room' _ Hr.out h1).mono ?_
  rintro _ w2 ⟨rfl, T2, k2, s2⟩
  have HT2 := Lib.hid T2
  have Hs2 := Lib.hid s2
  clear T2 s2
  go_wp2_with fail
  refine (Ls.again_any 32 10 10 last last' _ (by decide) Hl.out).mono ?_
  rintro _ w3 ⟨lt, lm, rfl, T3, k3, s3a, s3b⟩
  have HT3 := Lib.hid T3
  clear T3
  go_wp2_with fail
  refine (Hd.new_any 32 _).mono ?_
  rintro _ w4 ⟨rfl, T4, k4, s4⟩
  have HT4 := Lib.hid T4
  have Hs4 := Lib.hid s4
  clear T4 s4
  go_wp2_with fail
  go_ret
  have s1 := Hs1.out
  have s2 := Hs2.out
  have s4 := Hs4.out
  have z1 := k1.size
  have z2 := k2.size
  have z3 := k3.size
  have z4 := k4.size
  have l3 := (mp_of HT3.out.map).lt
  have l3' : lt < w3.heap.size := blk_lt HT3.out.blk
  have k5 : Keep NoB w4 (w4.alloc (.cells #[.pointer (some ⟨w.heap.size + 1, 0, none⟩), .pointer (some ⟨w1.heap.size + 1, 0, none⟩), .pointer (some ⟨lt, 0, none⟩), .pointer (some ⟨w3.heap.size + 1, 0, none⟩), .bool false, .int .i64 0] 75)) := (Keep.refl NoB w4).alloc _
  refine ⟨⟨w4.heap.size, w.heap.size + 1, w.heap.size, w1.heap.size + 1, w1.heap.size, lt, lm, w3.heap.size + 1, w3.heap.size⟩, rfl, ⟨blk_new w4 _, ?_, ?_, ?_, ?_, ?_, ?_, ?_, ?_, ?_, ?_⟩, (((k1.trans k2).trans k3).trans k4).trans k5, ?_⟩
  · exact HT1.out.keep (((k2.trans k3).trans k4).trans k5) (fun h => h) (fun h => h)
  · exact HT2.out.keep0 ((k3.trans k4).trans k5)
  · exact HT3.out.keep (k4.trans k5) (fun h => h) (fun h => h)
  · exact HT4.out.keep k5 (fun h => h) (fun h => h)
  · simp only; omega
  · simp only; omega
  · simp only; omega
  · simp only; omega
  · simp only; omega
  · simp only; omega
  · rintro k (e | e | e | (e | e | ⟨y, hy, e⟩) | e | e | e | e)
    · simp only at e; omega
    · simp only at e; omega
    · simp only at e; omega
    · simp only at e; omega
    · simp only at e; omega
    · cases hy
    · simp only at e; omega
    · simp only at e; omega
    · simp only at e; omega
    · simp only at e; omega

theorem new_any (room room' : Int) (w : World) (hr : max room 0 = room') (h1 : room' ≤ 9223372036854775807) :
    Calls Try.prog 7 #[.int .i64 room] w (AgainP room' 0 w) := by
  go_enter Try.func7, Try.ntmps7
  go_wp2_with fail
  refine (again_any room room' 0 0 _ hr h1 (Or.inl (by decide))).mono ?_
  rintro _ w1 ⟨b, rfl, D, k1, hb⟩
  go_wp2
  go_ret
  exact ⟨b, rfl, D, k1, hb⟩

/-! ### Get -/
inductive GetV (s : NS) (key : ByteArray) : NS → Value → Prop
  | marked (h : decide (∃ x ∈ s.M, x.1 = key) = true) : GetV s key s (ansV 2 ⟨0, 0, false, ⟨#[]⟩, 0⟩ 0)
  | hit (h : decide (∃ x ∈ s.M, x.1 = key) = false) (x : TH) (hf : It.fnd s.N key = some x) : GetV s key { s with kept := s.kept, N := x :: It.dropK s.N key } (ansV 1 x.v 0)
  | miss (h : decide (∃ x ∈ s.M, x.1 = key) = false) (hf : It.fnd s.N key = none) (v : Int) (ok : Bool) (last' : Int) (L' : LL) (hr : Ls.grantR 32 10 s.last s.L (Ls.kS key) = (v, ok, last', L')) : GetV s key { s with last := last', L := L' } (ansV 3 ⟨0, 0, false, ⟨#[]⟩, 0⟩ v)
def VPost (b : NB) (s s' : NS) (v : Value) (w : World) (e : Ending) (w' : World) : Prop := e = .returned v ∧ NPost w w' b s s'

set_option maxHeartbeats 8000000 in
theorem get_any (w : World) (b : NB) (s s' : NS) (D : Nd w b s) (key : ByteArray) (hks : key.size ≤ maxLen) (hl : s.L.length < maxLen) (hl0 : 0 ≤ s.last) (hl1 : s.last < 9223372036854775807) (v : Value) (h : GetV s key s' v) :
    Calls Try.prog 8 #[.pointer (some ⟨b.nb, 0, none⟩), .string key] w (VPost b s s' v w) := by
  have HD := Lib.hid D
  have k0 : Keep NoB w (w.alloc (.cells #[.int .i64 0, .int .i64 0, .int .i64 0, .bool false, .string ⟨#[]⟩, .int .i64 0, .int .i64 0] 31)) := (Keep.refl NoB w).alloc _
  have r0 := blk_new w (.cells #[.int .i64 0, .int .i64 0, .int .i64 0, .bool false, .string ⟨#[]⟩, .int .i64 0, .int .i64 0] 31)
  have hnb : b.nb < w.heap.size := blk_lt D.blk
  have c0 := blk_cell D.blk 0
  have c1 := blk_cell D.blk 1
  have c2 := blk_cell D.blk 2
  have c3 := blk_cell D.blk 3
  have c4 := blk_cell D.blk 4
  have c5 := blk_cell D.blk 5
  have cl := blk_lt D.blk
  simp at c0 c1 c2 c3 c4 c5
  clear D
  cases h with
  | marked h =>
    go_enter Try.func8, Try.ntmps8
    go_wp2_with fail
    refine (Mk.has_any b.mt b.mm 32 s.M key _ (HD.out.keep0 k0).mks true h).mono ?_
    rintro _ w1 ⟨rfl, k1⟩
    have b1 := blk_keep r0 k1 (fun h => h)
    obtain ⟨rb, hrb⟩ : ∃ q, w.heap.size = q := ⟨_, rfl⟩
    rw [hrb] at b1 ⊢
    have P1 := Lib.hid (NPost.refl0 HD.out (k0.trans k1))
    have Hb1 := Lib.hid b1
    have q0 := blk_cell b1 0
    have q1 := blk_cell b1 1
    have q2 := blk_cell b1 2
    have q3 := blk_cell b1 3
    have q4 := blk_cell b1 4
    have q5 := blk_cell b1 5
    have q6 := blk_cell b1 6
    have g0 := blk_free b1 0
    have g1 := blk_free b1 1
    have g2 := blk_free b1 2
    have g3 := blk_free b1 3
    have g4 := blk_free b1 4
    have g5 := blk_free b1 5
    have g6 := blk_free b1 6
    have ql := blk_lt b1
    simp at q0 q1 q2 q3 q4 q5 q6
    clear b1 r0 k0 k1
    clear c0 c1 c2 c3 c4 c5 cl
    go_wp2_with fail
    have y7 := blk_setCell (i := 6) (blk_setCell (i := 5) (blk_setCell (i := 4) (blk_setCell (i := 3) (blk_setCell (i := 2) (blk_setCell (i := 1) (blk_setCell (i := 0) (Hb1.out) (.int .i64 2)) (.int .i64 0)) (.int .i64 0)) (.bool false)) (.string ⟨#[]⟩)) (.int .i64 0)) (.int .i64 0)
    have K7 := ((((((Keep.refl (OneB rb) w1).setCell (p := ⟨rb, 0, none⟩) (Or.inr rfl) (.int .i64 2)).setCell (p := ⟨rb, 1, none⟩) (Or.inr rfl) (.int .i64 0)).setCell (p := ⟨rb, 2, none⟩) (Or.inr rfl) (.int .i64 0)).setCell (p := ⟨rb, 3, none⟩) (Or.inr rfl) (.bool false)).setCell (p := ⟨rb, 4, none⟩) (Or.inr rfl) (.string ⟨#[]⟩)).setCell (p := ⟨rb, 5, none⟩) (Or.inr rfl) (.int .i64 0) |>.setCell (p := ⟨rb, 6, none⟩) (Or.inr rfl) (.int .i64 0)
    generalize World.setCell _ _ _ = W7 at y7 K7 ⊢
    have d0 := blk_cell y7 0
    have d1 := blk_cell y7 1
    have d2 := blk_cell y7 2
    have d3 := blk_cell y7 3
    have d4 := blk_cell y7 4
    have d5 := blk_cell y7 5
    have d6 := blk_cell y7 6
    simp at d0 d1 d2 d3 d4 d5 d6
    refine bodyPost_ret (v := ansV 2 ⟨0, 0, false, ⟨#[]⟩, 0⟩ 0) (by simp [results, Try.results8, go_sem, d0, d1, d2, d3, d4, d5, d6]) rfl ⟨rfl, ?_⟩
    exact P1.out.store (by omega) ⟨_, _, Hb1.out⟩ (by decide) (by decide) (by decide) (by decide) (by decide) (by decide) K7
  | hit h x hf =>
    have Hf := Lib.hid hf
    clear hf
    go_enter Try.func8, Try.ntmps8
    go_wp2_with fail
    refine (Mk.has_any b.mt b.mm 32 s.M key _ (HD.out.keep0 k0).mks false h).mono ?_
    rintro _ w1 ⟨rfl, k1⟩
    have b1 := blk_keep r0 k1 (fun h => h)
    have D1 := Lib.hid (HD.out.keep0 (k0.trans k1))
    clear c0 c1 c2 c3 c4 c5 cl
    have c0 := blk_cell D1.out.blk 0
    have c1 := blk_cell D1.out.blk 1
    have c2 := blk_cell D1.out.blk 2
    have c3 := blk_cell D1.out.blk 3
    have c4 := blk_cell D1.out.blk 4
    have c5 := blk_cell D1.out.blk 5
    have cl := blk_lt D1.out.blk
    simp at c0 c1 c2 c3 c4 c5
    obtain ⟨rb, hrb⟩ : ∃ q, w.heap.size = q := ⟨_, rfl⟩
    rw [hrb] at b1 ⊢
    have P1 := Lib.hid (NPost.refl0 HD.out (k0.trans k1))
    have Hb1 := Lib.hid b1
    clear b1 r0 k0 k1
    go_wp2_with fail
    refine (It.get_hit b.cb b.cm s.room s.kept s.N key x _ D1.out.it hks Hf.out).mono ?_
    rintro _ w2 ⟨rfl, T2, k2⟩
    have P2 := D1.out.setI T2 k2 (fun y hy => by
      rcases List.mem_cons.1 hy with rfl | hy
      · exact Or.inl (List.mem_of_find?_eq_some Hf.out)
      · exact Or.inl (It.dropK_mem hy).1)
    have b2 := P2.blk Hb1.out D1.out (by decide) (by decide) (by decide) (by decide) (by decide) (by decide)
    have P3 := Lib.hid (P1.out.trans P2)
    have Hb2 := Lib.hid b2
    clear c0 c1 c2 c3 c4 c5 cl
    have q0 := blk_cell b2 0
    have q1 := blk_cell b2 1
    have q2 := blk_cell b2 2
    have q3 := blk_cell b2 3
    have q4 := blk_cell b2 4
    have q5 := blk_cell b2 5
    have q6 := blk_cell b2 6
    have g0 := blk_free b2 0
    have g1 := blk_free b2 1
    have g2 := blk_free b2 2
    have g3 := blk_free b2 3
    have g4 := blk_free b2 4
    have g5 := blk_free b2 5
    have g6 := blk_free b2 6
    have ql := blk_lt b2
    simp at q0 q1 q2 q3 q4 q5 q6
    clear b2 T2 k2 P2
    go_wp2_with fail
    have y7 := blk_setCell (i := 6) (blk_setCell (i := 5) (blk_setCell (i := 4) (blk_setCell (i := 3) (blk_setCell (i := 2) (blk_setCell (i := 1) (blk_setCell (i := 0) (Hb2.out) (.int .i64 1)) (.int .i64 x.v.e)) (.int .i64 x.v.i)) (.bool x.v.th)) (.string x.v.tx)) (.int .i64 x.v.a)) (.int .i64 0)
    have K7 := ((((((Keep.refl (OneB rb) w2).setCell (p := ⟨rb, 0, none⟩) (Or.inr rfl) (.int .i64 1)).setCell (p := ⟨rb, 1, none⟩) (Or.inr rfl) (.int .i64 x.v.e)).setCell (p := ⟨rb, 2, none⟩) (Or.inr rfl) (.int .i64 x.v.i)).setCell (p := ⟨rb, 3, none⟩) (Or.inr rfl) (.bool x.v.th)).setCell (p := ⟨rb, 4, none⟩) (Or.inr rfl) (.string x.v.tx)).setCell (p := ⟨rb, 5, none⟩) (Or.inr rfl) (.int .i64 x.v.a) |>.setCell (p := ⟨rb, 6, none⟩) (Or.inr rfl) (.int .i64 0)
    generalize World.setCell _ _ _ = W7 at y7 K7 ⊢
    have z7 := blk_alloc (o' := .cells #[.int .i64 x.v.e, .int .i64 x.v.i, .bool x.v.th, .string x.v.tx, .int .i64 x.v.a] 77) y7
    have d0 := blk_cell z7 0
    have d1 := blk_cell z7 1
    have d2 := blk_cell z7 2
    have d3 := blk_cell z7 3
    have d4 := blk_cell z7 4
    have d5 := blk_cell z7 5
    have d6 := blk_cell z7 6
    simp at d0 d1 d2 d3 d4 d5 d6
    refine bodyPost_ret (v := ansV 1 x.v 0) (by simp [results, Try.results8, go_sem, d0, d1, d2, d3, d4, d5, d6]) rfl ⟨rfl, ?_⟩
    exact (P3.out.store (by omega) ⟨_, _, Hb2.out⟩ (by decide) (by decide) (by decide) (by decide) (by decide) (by decide) K7).keep0 ((Keep.refl NoB W7).alloc _)
  | miss h hf v ok last' L' hr =>
    have Hf := Lib.hid hf
    have Hr := Lib.hid hr
    clear hf hr
    go_enter Try.func8, Try.ntmps8
    go_wp2_with fail
    refine (Mk.has_any b.mt b.mm 32 s.M key _ (HD.out.keep0 k0).mks false h).mono ?_
    rintro _ w1 ⟨rfl, k1⟩
    have b1 := blk_keep r0 k1 (fun h => h)
    have D1 := Lib.hid (HD.out.keep0 (k0.trans k1))
    clear c0 c1 c2 c3 c4 c5 cl
    have c0 := blk_cell D1.out.blk 0
    have c1 := blk_cell D1.out.blk 1
    have c2 := blk_cell D1.out.blk 2
    have c3 := blk_cell D1.out.blk 3
    have c4 := blk_cell D1.out.blk 4
    have c5 := blk_cell D1.out.blk 5
    have cl := blk_lt D1.out.blk
    simp at c0 c1 c2 c3 c4 c5
    obtain ⟨rb, hrb⟩ : ∃ q, w.heap.size = q := ⟨_, rfl⟩
    rw [hrb] at b1 ⊢
    have P1 := Lib.hid (NPost.refl0 HD.out (k0.trans k1))
    have Hb1 := Lib.hid b1
    clear b1 r0 k0 k1
    go_wp2_with fail
    refine (It.get_miss b.cb b.cm s.room s.kept s.N key _ D1.out.it hks Hf.out).mono ?_
    rintro _ w2 ⟨rfl, k2⟩
    have D2 := D1.out.keep0 k2
    have b2 := blk_keep Hb1.out k2 (fun h => h)
    have kx : Keep NoB w2 (w2.alloc (.cells #[.int .i64 0, .int .i64 0, .bool false, .string ⟨#[]⟩, .int .i64 0] 77)) := (Keep.refl NoB w2).alloc _
    have D3 := Lib.hid (D2.keep0 kx)
    have Hb3 := Lib.hid (blk_keep b2 kx (fun h => h))
    have P3 := Lib.hid (P1.out.keep0 (k2.trans kx))
    clear c0 c1 c2 c3 c4 c5 cl
    have c0 := blk_cell D2.blk 0
    have c1 := blk_cell D2.blk 1
    have c2 := blk_cell D2.blk 2
    have c3 := blk_cell D2.blk 3
    have c4 := blk_cell D2.blk 4
    have c5 := blk_cell D2.blk 5
    have cl := blk_lt D2.blk
    simp at c0 c1 c2 c3 c4 c5
    clear k2 kx b2 D2
    go_wp2_with fail
    refine (Ls.grant_any b.lt b.lm 32 10 s.last s.L key _ D3.out.ls hks hl hl0 hl1 v ok last' L' Hr.out).mono ?_
    rintro _ w4 ⟨rfl, T4, k4⟩
    have P4 := D3.out.setL T4 k4
    have b4 := P4.blk Hb3.out D3.out (by decide) (by decide) (by decide) (by decide) (by decide) (by decide)
    have P5 := Lib.hid (P3.out.trans P4)
    have Hb4 := Lib.hid b4
    clear c0 c1 c2 c3 c4 c5 cl
    have q0 := blk_cell b4 0
    have q1 := blk_cell b4 1
    have q2 := blk_cell b4 2
    have q3 := blk_cell b4 3
    have q4 := blk_cell b4 4
    have q5 := blk_cell b4 5
    have q6 := blk_cell b4 6
    have g0 := blk_free b4 0
    have g1 := blk_free b4 1
    have g2 := blk_free b4 2
    have g3 := blk_free b4 3
    have g4 := blk_free b4 4
    have g5 := blk_free b4 5
    have g6 := blk_free b4 6
    have ql := blk_lt b4
    simp at q0 q1 q2 q3 q4 q5 q6
    clear b4 T4 k4 P4
    go_wp2_with fail
    have y7 := blk_setCell (i := 6) (blk_setCell (i := 5) (blk_setCell (i := 4) (blk_setCell (i := 3) (blk_setCell (i := 2) (blk_setCell (i := 1) (blk_setCell (i := 0) (Hb4.out) (.int .i64 3)) (.int .i64 0)) (.int .i64 0)) (.bool false)) (.string ⟨#[]⟩)) (.int .i64 0)) (.int .i64 v)
    have K7 := ((((((Keep.refl (OneB rb) w4).setCell (p := ⟨rb, 0, none⟩) (Or.inr rfl) (.int .i64 3)).setCell (p := ⟨rb, 1, none⟩) (Or.inr rfl) (.int .i64 0)).setCell (p := ⟨rb, 2, none⟩) (Or.inr rfl) (.int .i64 0)).setCell (p := ⟨rb, 3, none⟩) (Or.inr rfl) (.bool false)).setCell (p := ⟨rb, 4, none⟩) (Or.inr rfl) (.string ⟨#[]⟩)).setCell (p := ⟨rb, 5, none⟩) (Or.inr rfl) (.int .i64 0) |>.setCell (p := ⟨rb, 6, none⟩) (Or.inr rfl) (.int .i64 v)
    generalize World.setCell _ _ _ = W7 at y7 K7 ⊢
    have d0 := blk_cell y7 0
    have d1 := blk_cell y7 1
    have d2 := blk_cell y7 2
    have d3 := blk_cell y7 3
    have d4 := blk_cell y7 4
    have d5 := blk_cell y7 5
    have d6 := blk_cell y7 6
    simp at d0 d1 d2 d3 d4 d5 d6
    refine bodyPost_ret (v := ansV 3 ⟨0, 0, false, ⟨#[]⟩, 0⟩ v) (by simp [results, Try.results8, go_sem, d0, d1, d2, d3, d4, d5, d6]) rfl ⟨rfl, ?_⟩
    exact P5.out.store (by omega) ⟨_, _, Hb4.out⟩ (by decide) (by decide) (by decide) (by decide) (by decide) (by decide) K7
end Go.Proofs.Ytieoejilppgebaa
