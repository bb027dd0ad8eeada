/- What Peek and Invalidate (of a node that isn't cold) of package node come to. -/
import Derived.Test.YtieoejilppgebaaNdF
namespace Go.Proofs.Ytieoejilppgebaa
open Go Go.RowKit Go.Maps
set_option maxRecDepth 100000


/-- What a Peek tells. -/
def nPk (s : NS) (key : ByteArray) : IT × Bool := if decide (∃ x ∈ s.M, x.1 = key) = true then (⟨0, 0, false, ⟨#[]⟩, 0⟩, false) else pk s.N key
theorem nPk_mark {s : NS} {key : ByteArray} (h : decide (∃ x ∈ s.M, x.1 = key) = true) : nPk s key = (⟨0, 0, false, ⟨#[]⟩, 0⟩, false) := by unfold nPk; rw [if_pos h]
theorem nPk_no {s : NS} {key : ByteArray} (h : decide (∃ x ∈ s.M, x.1 = key) = false) : nPk s key = pk s.N key := by unfold nPk; rw [if_neg (by rw [h]; decide)]

set_option maxHeartbeats 8000000 in
theorem npeek_any (w : World) (b : NB) (s : NS) (D : Nd w b s) (key : ByteArray) (hks : key.size ≤ maxLen) (xv : IT) (ok : Bool) (hp : nPk s key = (xv, ok)) :
    Calls Try.prog 12 #[.pointer (some ⟨b.nb, 0, none⟩), .string key] w fun e w' => e = .returned (.tuple #[.agg #[.int .i64 xv.e, .int .i64 xv.i, .bool xv.th, .string xv.tx], .int .i64 xv.a, .bool ok]) ∧ Keep NoB w w' := by
  have HD := Lib.hid D
  have k0 : Keep NoB w (w.alloc (.cells #[.int .i64 0, .int .i64 0, .bool false, .string ⟨#[]⟩] 29)) := (Keep.refl NoB w).alloc _
  have r0 := blk_new w (.cells #[.int .i64 0, .int .i64 0, .bool false, .string ⟨#[]⟩] 29)
  have D0 := HD.out.keep0 k0
  obtain ⟨hb, hh⟩ : ∃ q, decide (∃ x ∈ s.M, x.1 = key) = q := ⟨_, rfl⟩
  have c0 := blk_cell D.blk 0
  have c1 := blk_cell D.blk 1
  have c2 := blk_cell D.blk 2
  have c3 := blk_cell D.blk 3
  have c4 := blk_cell D.blk 4
  have c5 := blk_cell D.blk 5
  have cl := blk_lt D.blk
  simp at c0 c1 c2 c3 c4 c5
  clear D
  cases hb
  · rw [nPk_no hh] at hp
    have Hp := Lib.hid hp
    clear hp
    go_enter Try.func12, Try.ntmps12
    go_wp2_with fail
    refine (Mk.has_any b.mt b.mm 32 s.M key _ D0.mks false hh).mono ?_
    rintro _ w1 ⟨rfl, k1⟩
    have D1 := Lib.hid (D0.keep0 k1)
    have b1 := blk_keep r0 k1 (fun h => h)
    have K1 := k0.trans k1
    obtain ⟨rb, hrb⟩ : ∃ q, w.heap.size = q := ⟨_, rfl⟩
    rw [hrb] at b1 ⊢
    clear c0 c1 c2 c3 c4 c5 cl
    have c0 := blk_cell D1.out.blk 0
    have c1 := blk_cell D1.out.blk 1
    have c2 := blk_cell D1.out.blk 2
    have c3 := blk_cell D1.out.blk 3
    have c4 := blk_cell D1.out.blk 4
    have c5 := blk_cell D1.out.blk 5
    have cl := blk_lt D1.out.blk
    simp at c0 c1 c2 c3 c4 c5
    clear D0 k0 k1 r0
    go_wp2_with fail
    refine (peek_all b.cb b.cm s.room s.kept s.N key _ D1.out.it hks xv ok Hp.out).mono ?_
    rintro _ w2 ⟨rfl, k2⟩
    have b2 := blk_keep b1 k2 (fun h => h)
    have K2 := K1.trans k2
    have hbl := blk_lt b2
    clear c0 c1 c2 c3 c4 c5 cl
    clear b1 k2 K1
    go_wp2_with fail
    have kx : Keep NoB w2 (w2.alloc (.cells #[.int .i64 xv.e, .int .i64 xv.i, .bool xv.th, .string xv.tx, .int .i64 xv.a] 77)).drew := ((Keep.refl NoB w2).alloc _).drew
    have bx := blk_drew (blk_new w2 (.cells #[.int .i64 xv.e, .int .i64 xv.i, .bool xv.th, .string xv.tx, .int .i64 xv.a] 77))
    have b3 := Lib.hid (blk_keep b2 kx (fun h => h))
    have K3 := Lib.hid (K2.trans kx)
    obtain ⟨qb, hqb⟩ : ∃ q, w2.heap.size = q := ⟨_, rfl⟩
    have hqr : qb ≠ rb := by omega
    rw [hqb] at bx ⊢
    refine wp_region_pl (fun u => u.cell? ⟨qb, 0, none⟩ = some (.int .i64 xv.e) ∧ u.cell? ⟨qb, 1, none⟩ = some (.int .i64 xv.i) ∧ u.cell? ⟨qb, 2, none⟩ = some (.bool xv.th) ∧ u.cell? ⟨qb, 3, none⟩ = some (.string xv.tx) ∧ u.cell? ⟨qb, 4, none⟩ = some (.int .i64 xv.a)) [] (.rd 0 (.rd 1 (.rd 2 (.rd 3 (.rd 4 (.one 5 (.one 6 (.one 7 .done)))))))) (by kernel_rfl) (by kernel_rfl) (by kernel_rfl) (by kernel_rfl) (by intro c b d v u h; cases d <;> exact h) ?_
    generalize (World.alloc w2 (.cells #[.int .i64 xv.e, .int .i64 xv.i, .bool xv.th, .string xv.tx, .int .i64 xv.a] 77)).drew = V at bx b3 K3 ⊢
    have x0 := blk_cell bx 0
    have x1 := blk_cell bx 1
    have x2 := blk_cell bx 2
    have x3 := blk_cell bx 3
    have x4 := blk_cell bx 4
    simp at x0 x1 x2 x3 x4
    have HS0 := Lib.hid (show V.cell? ⟨qb, 0, none⟩ = some (.int .i64 xv.e) ∧ V.cell? ⟨qb, 1, none⟩ = some (.int .i64 xv.i) ∧ V.cell? ⟨qb, 2, none⟩ = some (.bool xv.th) ∧ V.cell? ⟨qb, 3, none⟩ = some (.string xv.tx) ∧ V.cell? ⟨qb, 4, none⟩ = some (.int .i64 xv.a) from ⟨x0, x1, x2, x3, x4⟩)
    have hb3 := b3.out
    clear x0 x1 x2 x3 x4 bx kx b2 K2 hbl
    first
      | refine pl_get (i := 0) rfl rfl HS0.out rfl (fun u hu => by (try dsimp only at hu); go_simp; rfl) (by simp only [List.setIfInBounds_toArray, List.set_cons_succ, List.set_cons_zero]; rfl) ?_
      | refine pl_skip (i := 0) rfl rfl HS0.out rfl (by simp only [List.setIfInBounds_toArray, List.set_cons_succ, List.set_cons_zero]; rfl) ?_
    first
      | refine pl_get (i := 1) rfl rfl HS0.out rfl (fun u hu => by (try dsimp only at hu); go_simp; rfl) (by simp only [List.setIfInBounds_toArray, List.set_cons_succ, List.set_cons_zero]; rfl) ?_
      | refine pl_skip (i := 1) rfl rfl HS0.out rfl (by simp only [List.setIfInBounds_toArray, List.set_cons_succ, List.set_cons_zero]; rfl) ?_
    first
      | refine pl_get (i := 2) rfl rfl HS0.out rfl (fun u hu => by (try dsimp only at hu); go_simp; rfl) (by simp only [List.setIfInBounds_toArray, List.set_cons_succ, List.set_cons_zero]; rfl) ?_
      | refine pl_skip (i := 2) rfl rfl HS0.out rfl (by simp only [List.setIfInBounds_toArray, List.set_cons_succ, List.set_cons_zero]; rfl) ?_
    first
      | refine pl_get (i := 3) rfl rfl HS0.out rfl (fun u hu => by (try dsimp only at hu); go_simp; rfl) (by simp only [List.setIfInBounds_toArray, List.set_cons_succ, List.set_cons_zero]; rfl) ?_
      | refine pl_skip (i := 3) rfl rfl HS0.out rfl (by simp only [List.setIfInBounds_toArray, List.set_cons_succ, List.set_cons_zero]; rfl) ?_
    first
      | refine pl_get (i := 4) rfl rfl HS0.out rfl (fun u hu => by (try dsimp only at hu); go_simp; rfl) (by simp only [List.setIfInBounds_toArray, List.set_cons_succ, List.set_cons_zero]; rfl) ?_
      | refine pl_skip (i := 4) rfl rfl HS0.out rfl (by simp only [List.setIfInBounds_toArray, List.set_cons_succ, List.set_cons_zero]; rfl) ?_
    have q0 := blk_cell hb3 0
    have q1 := blk_cell hb3 1
    have q2 := blk_cell hb3 2
    have q3 := blk_cell hb3 3
    have g0 := blk_free hb3 0
    have g1 := blk_free hb3 1
    have g2 := blk_free hb3 2
    have g3 := blk_free hb3 3
    have ql := blk_lt hb3
    simp at q0 q1 q2 q3
    clear hb3
    refine pl_one (i := 5) rfl ?_
    go_wp2_with (fail)
    have y4 := blk_setCell (i := 3) (blk_setCell (i := 2) (blk_setCell (i := 1) (blk_setCell (i := 0) (b3.out) (.int .i64 xv.e)) (.int .i64 xv.i)) (.bool xv.th)) (.string xv.tx)
    have K4 := (((Keep.refl (OneB rb) V).setCell (p := ⟨rb, 0, none⟩) (Or.inr rfl) (.int .i64 xv.e)).setCell (p := ⟨rb, 1, none⟩) (Or.inr rfl) (.int .i64 xv.i)).setCell (p := ⟨rb, 2, none⟩) (Or.inr rfl) (.bool xv.th) |>.setCell (p := ⟨rb, 3, none⟩) (Or.inr rfl) (.string xv.tx)
    generalize World.setCell _ _ _ = W4 at y4 K4 ⊢
    have HS1 := Lib.hid (show W4.cell? ⟨qb, 0, none⟩ = some (.int .i64 xv.e) ∧ W4.cell? ⟨qb, 1, none⟩ = some (.int .i64 xv.i) ∧ W4.cell? ⟨qb, 2, none⟩ = some (.bool xv.th) ∧ W4.cell? ⟨qb, 3, none⟩ = some (.string xv.tx) ∧ W4.cell? ⟨qb, 4, none⟩ = some (.int .i64 xv.a) from ⟨K4.some HS0.out.1 hqr, K4.some HS0.out.2.1 hqr, K4.some HS0.out.2.2.1 hqr, K4.some HS0.out.2.2.2.1 hqr, K4.some HS0.out.2.2.2.2 hqr⟩)
    refine pl_next (fun _ => HS1.out) ?_
    refine pl_one (i := 6) rfl ?_
    go_wp2_with (fail)
    refine pl_next (fun _ => HS1.out) ?_
    refine pl_one (i := 7) rfl ?_
    go_wp2_with (fail)
    refine pl_next (fun _ => HS1.out) ?_
    refine pl_done ?_
    have d0 := blk_cell y4 0
    have d1 := blk_cell y4 1
    have d2 := blk_cell y4 2
    have d3 := blk_cell y4 3
    simp at d0 d1 d2 d3
    go_wp2_with fail
    refine bodyPost_ret (v := .tuple #[.agg #[.int .i64 xv.e, .int .i64 xv.i, .bool xv.th, .string xv.tx], .int .i64 xv.a, .bool ok]) (by simp [results, Try.results12, go_sem, d0, d1, d2, d3]) rfl ⟨rfl, ?_⟩
    exact K3.out.trans' K4 (fun i hi e => by have e' : i = rb := e; omega)
  · rw [nPk_mark hh] at hp
    cases hp
    go_enter Try.func12, Try.ntmps12
    go_wp2_with fail
    refine (Mk.has_any b.mt b.mm 32 s.M key _ D0.mks true hh).mono ?_
    rintro _ w1 ⟨rfl, k1⟩
    have b1 := blk_keep r0 k1 (fun h => h)
    have K1 := k0.trans k1
    obtain ⟨rb, hrb⟩ : ∃ q, w.heap.size = q := ⟨_, rfl⟩
    rw [hrb] at b1 ⊢
    clear c0 c1 c2 c3 c4 c5 cl
    have Hb1 := Lib.hid b1
    have q0 := blk_cell b1 0
    have q1 := blk_cell b1 1
    have q2 := blk_cell b1 2
    have q3 := blk_cell b1 3
    have g0 := blk_free b1 0
    have g1 := blk_free b1 1
    have g2 := blk_free b1 2
    have g3 := blk_free b1 3
    have ql := blk_lt b1
    simp at q0 q1 q2 q3
    clear D0 k0 k1 r0 b1
    go_wp2_with fail
    have y4 := blk_setCell (i := 3) (blk_setCell (i := 2) (blk_setCell (i := 1) (blk_setCell (i := 0) (Hb1.out) (.int .i64 0)) (.int .i64 0)) (.bool false)) (.string ⟨#[]⟩)
    have K4 := (((Keep.refl (OneB rb) w1).setCell (p := ⟨rb, 0, none⟩) (Or.inr rfl) (.int .i64 0)).setCell (p := ⟨rb, 1, none⟩) (Or.inr rfl) (.int .i64 0)).setCell (p := ⟨rb, 2, none⟩) (Or.inr rfl) (.bool false) |>.setCell (p := ⟨rb, 3, none⟩) (Or.inr rfl) (.string ⟨#[]⟩)
    generalize World.setCell _ _ _ = W4 at y4 K4 ⊢
    have d0 := blk_cell y4 0
    have d1 := blk_cell y4 1
    have d2 := blk_cell y4 2
    have d3 := blk_cell y4 3
    simp at d0 d1 d2 d3
    refine bodyPost_ret (v := .tuple #[.agg #[.int .i64 0, .int .i64 0, .bool false, .string ⟨#[]⟩], .int .i64 0, .bool false]) (by simp [results, Try.results12, go_sem, d0, d1, d2, d3]) rfl ⟨rfl, ?_⟩
    exact K1.trans' K4 (fun i hi e => by have e' : i = rb := e; omega)

/-! ### Invalidate -/
/-- What an Invalidate leaves of the items. -/
def invN (N : List TH) (key : ByteArray) (i : Int) : List TH := if (pk N key).2 = true ∧ (pk N key).1.a < i then It.dropK N key else N

set_option maxHeartbeats 8000000 in
theorem inval_any (w : World) (b : NB) (s : NS) (D : Nd w b s) (hc : s.cold = false) (key : ByteArray) (i : Int) (hks : key.size ≤ maxLen) :
    Calls Try.prog 17 #[.pointer (some ⟨b.nb, 0, none⟩), .string key, .int .i64 i] w (VPost b s { s with kept := s.kept, N := invN s.N key i, last := s.last, L := ldel s.L (Ls.kS key) } (.tuple #[]) w) := by
  have HD := Lib.hid D
  obtain ⟨⟨xv, ok⟩, hp⟩ : ∃ p, pk s.N key = p := ⟨_, rfl⟩
  have hiv : invN s.N key i = if ok = true ∧ xv.a < i then It.dropK s.N key else s.N := by unfold invN; rw [hp]
  obtain ⟨N', hN'⟩ : ∃ l, invN s.N key i = l := ⟨_, rfl⟩
  rw [hN'] at hiv ⊢
  have Hp := Lib.hid hp
  have Hiv := Lib.hid hiv
  obtain ⟨ub, hub⟩ : ∃ q, (lget s.L (Ls.kS key)).isSome = q := ⟨_, rfl⟩
  have Hub := Lib.hid hub
  have c0 := blk_cell D.blk 0
  have c1 := blk_cell D.blk 1
  have c2 := blk_cell D.blk 2
  have c3 := blk_cell D.blk 3
  have c4 := blk_cell D.blk 4
  have c5 := blk_cell D.blk 5
  have cl := blk_lt D.blk
  simp at c0 c1 c2 c3 c4 c5
  rw [hc] at c4
  clear D hp hiv hN' hub
  go_enter Try.func17, Try.ntmps17
  go_wp2_with fail
  refine (peek_all b.cb b.cm s.room s.kept s.N key _ HD.out.it hks xv ok Hp.out).mono ?_
  rintro _ w1 ⟨rfl, k1⟩
  have kx : Keep NoB w1 (w1.alloc (.cells #[.int .i64 xv.e, .int .i64 xv.i, .bool xv.th, .string xv.tx, .int .i64 xv.a] 77)) := (Keep.refl NoB w1).alloc _
  have P1 := Lib.hid (NPost.refl0 HD.out (k1.trans kx))
  clear c0 c1 c2 c3 c4 c5 cl
  have D1 := HD.out.keep0 k1
  have c0 := blk_cell D1.blk 0
  have c1 := blk_cell D1.blk 1
  have c2 := blk_cell D1.blk 2
  have c3 := blk_cell D1.blk 3
  have c4 := blk_cell D1.blk 4
  have c5 := blk_cell D1.blk 5
  have cl := blk_lt D1.blk
  simp at c0 c1 c2 c3 c4 c5
  rw [hc] at c4
  clear D1 k1 kx
  by_cases hd : ok = true ∧ xv.a < i
  · obtain ⟨rfl, ha⟩ := hd
    have d : decide (xv.a < i) = true := decide_eq_true ha
    have e1 := Hiv.out
    rw [if_pos ⟨rfl, ha⟩] at e1
    subst e1
    clear Hiv
    go_wp2_with fail
    refine (It.drop_any b.cb b.cm s.room s.kept s.N key _ P1.out.D.it hks).mono ?_
    rintro _ w2 ⟨rfl, T2, k2⟩
    have P2 := Lib.hid (P1.out.trans (P1.out.D.setI T2 k2 (fun x hx => Or.inl (It.dropK_mem hx).1)))
    clear c0 c1 c2 c3 c4 c5 cl
    have c0 := blk_cell P2.out.D.blk 0
    have c1 := blk_cell P2.out.D.blk 1
    have c2 := blk_cell P2.out.D.blk 2
    have c3 := blk_cell P2.out.D.blk 3
    have c4 := blk_cell P2.out.D.blk 4
    have c5 := blk_cell P2.out.D.blk 5
    have cl := blk_lt P2.out.D.blk
    simp at c0 c1 c2 c3 c4 c5
    simp only [hc] at c4
    clear T2 k2
    go_wp2_with fail
    refine (Ls.kill_any b.lt b.lm 32 10 s.last s.L key _ P2.out.D.ls hks ub Hub.out).mono ?_
    rintro _ w3 ⟨rfl, T3, k3⟩
    have P3 := Lib.hid (P2.out.trans (P2.out.D.setL T3 k3))
    clear c0 c1 c2 c3 c4 c5 cl
    have c0 := blk_cell P3.out.D.blk 0
    have c1 := blk_cell P3.out.D.blk 1
    have c2 := blk_cell P3.out.D.blk 2
    have c3 := blk_cell P3.out.D.blk 3
    have c4 := blk_cell P3.out.D.blk 4
    have c5 := blk_cell P3.out.D.blk 5
    have cl := blk_lt P3.out.D.blk
    simp at c0 c1 c2 c3 c4 c5
    simp only [hc] at c4
    clear T3 k3
    go_wp2_with fail
    go_end0
    exact ⟨rfl, P3.out⟩
  · have e1 := Hiv.out
    rw [if_neg hd] at e1
    subst e1
    clear Hiv
    have hd2 : ok = false ∨ (ok = true ∧ decide (xv.a < i) = false) := by
      cases ok
      · exact Or.inl rfl
      · exact Or.inr ⟨rfl, decide_eq_false (fun h => hd ⟨rfl, h⟩)⟩
    rcases hd2 with rfl | ⟨rfl, d⟩
    all_goals
      clear hd
      go_wp2_with fail
      refine (Ls.kill_any b.lt b.lm 32 10 s.last s.L key _ P1.out.D.ls hks ub Hub.out).mono ?_
      rintro _ w3 ⟨rfl, T3, k3⟩
      have P3 := Lib.hid (P1.out.trans (P1.out.D.setL T3 k3))
      clear c0 c1 c2 c3 c4 c5 cl
      have c0 := blk_cell P3.out.D.blk 0
      have c1 := blk_cell P3.out.D.blk 1
      have c2 := blk_cell P3.out.D.blk 2
      have c3 := blk_cell P3.out.D.blk 3
      have c4 := blk_cell P3.out.D.blk 4
      have c5 := blk_cell P3.out.D.blk 5
      have cl := blk_lt P3.out.D.blk
      simp at c0 c1 c2 c3 c4 c5
      simp only [hc] at c4
      clear T3 k3
      go_wp2_with fail
      go_end0
      exact ⟨rfl, P3.out⟩
end Go.Proofs.Ytieoejilppgebaa
