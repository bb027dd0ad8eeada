/- What Cold, Pass, Tick, Invalidate and Warm of package node come to. -/
import Derived.Test.YtieoejilppgebaaNdG
namespace Go.Proofs.Ytieoejilppgebaa
open Go Go.RowKit Go.Maps
set_option maxRecDepth 100000


/-! ### Tick, Pass, Cold -/
theorem tick_any (w : World) (b : NB) (s : NS) (D : Nd w b s) (hn : s.L.length < maxLen) (hb : ∀ p ∈ s.L, 1 ≤ p.2.2 ∧ p.2.2 ≤ 9223372036854775807) :
    Calls Try.prog 21 #[.pointer (some ⟨b.nb, 0, none⟩)] w (VPost b s { s with last := s.last, L := Ls.tickL s.L } (.tuple #[]) w) := by
  have HD := Lib.hid D
  have c0 := blk_cell D.blk 0
  have c1 := blk_cell D.blk 1
  have c2 := blk_cell D.blk 2
  have c3 := blk_cell D.blk 3
  have c4 := blk_cell D.blk 4
  have c5 := blk_cell D.blk 5
  have cl := blk_lt D.blk
  simp at c0 c1 c2 c3 c4 c5
  clear D
  go_enter Try.func21, Try.ntmps21
  go_wp2_with fail
  refine (Ls.tick_any b.lt b.lm 32 10 s.last s.L _ HD.out.ls hn hb).mono ?_
  rintro _ w2 ⟨rfl, T2, k2⟩
  have P2 := Lib.hid (HD.out.setL T2 k2)
  clear T2 k2
  clear c0 c1 c2 c3 c4 c5 cl
  go_wp2_with fail
  go_end0
  exact ⟨rfl, P2.out⟩

theorem pass_any (w : World) (b : NB) (s : NS) (D : Nd w b s) (hn : s.H.length < maxLen) (i fl' : Int) (hf' : (s.fl ≤ i ∧ fl' = 0) ∨ (i < s.fl ∧ fl' = s.fl)) :
    Calls Try.prog 20 #[.pointer (some ⟨b.nb, 0, none⟩), .int .i64 i] w (VPost b s { s with fl := fl', H := Hd.passL s.H i } (.tuple #[]) w) := by
  have HD := Lib.hid D
  have Hf := Lib.hid hf'
  have c0 := blk_cell D.blk 0
  have c1 := blk_cell D.blk 1
  have c2 := blk_cell D.blk 2
  have c3 := blk_cell D.blk 3
  have c4 := blk_cell D.blk 4
  have c5 := blk_cell D.blk 5
  have cl := blk_lt D.blk
  simp at c0 c1 c2 c3 c4 c5
  clear D hf'
  go_enter Try.func20, Try.ntmps20
  go_wp2_with fail
  refine (Hd.pass_any b.ht b.hm 32 s.fl s.H i _ HD.out.hd hn fl' Hf.out).mono ?_
  rintro _ w2 ⟨rfl, T2, k2⟩
  have P2 := Lib.hid (HD.out.setH T2 k2)
  clear T2 k2
  clear c0 c1 c2 c3 c4 c5 cl
  go_wp2_with fail
  go_end0
  exact ⟨rfl, P2.out⟩

theorem cold_any (w : World) (b : NB) (s : NS) (D : Nd w b s) (i : Int) :
    Calls Try.prog 16 #[.pointer (some ⟨b.nb, 0, none⟩), .int .i64 i] w (VPost b s { s with fl := 0, H := [], cold := true, since := i } (.tuple #[]) w) := by
  have HD := Lib.hid D
  have c0 := blk_cell D.blk 0
  have c1 := blk_cell D.blk 1
  have c2 := blk_cell D.blk 2
  have c3 := blk_cell D.blk 3
  have c4 := blk_cell D.blk 4
  have c5 := blk_cell D.blk 5
  have cl := blk_lt D.blk
  simp at c0 c1 c2 c3 c4 c5
  clear D
  go_enter Try.func16, Try.ntmps16
  go_wp2_with fail
  refine (Hd.clear_any b.ht b.hm 32 s.fl s.H _ HD.out.hd).mono ?_
  rintro _ w2 ⟨rfl, T2, k2⟩
  have P2 := Lib.hid (HD.out.setH T2 k2)
  clear T2 k2
  clear c0 c1 c2 c3 c4 c5 cl
  have c0 := blk_cell P2.out.D.blk 0
  have c1 := blk_cell P2.out.D.blk 1
  have c2 := blk_cell P2.out.D.blk 2
  have c3 := blk_cell P2.out.D.blk 3
  have c4 := blk_cell P2.out.D.blk 4
  have c5 := blk_cell P2.out.D.blk 5
  have cl := blk_lt P2.out.D.blk
  simp at c0 c1 c2 c3 c4 c5
  have f4 := blk_free P2.out.D.blk 4
  have f5 := blk_free P2.out.D.blk 5
  go_wp2_with fail
  have y := blk_setCell (i := 5) (blk_setCell (i := 4) P2.out.D.blk (.bool true)) (.int .i64 i)
  have K := ((Keep.refl (OneB b.nb) w2).setCell (p := ⟨b.nb, 4, none⟩) (Or.inr rfl) (.bool true)).setCell (p := ⟨b.nb, 5, none⟩) (Or.inr rfl) (.int .i64 i)
  simp at y
  generalize World.setCell _ _ _ = W at y K ⊢
  have P6 := P2.out.trans (P2.out.D.setC y K)
  go_end0
  exact ⟨rfl, P6⟩

/-! ### Invalidate -/
def invH (s : NS) (key : ByteArray) (i : Int) : HL := if s.cold = true then Hd.noteL 32 s.H (Hd.kS key) i else s.H
def invFl (s : NS) (key : ByteArray) (i : Int) : Int := if s.cold = true then Hd.noteFl 32 s.fl s.H (Hd.kS key) i else s.fl
theorem inval_cold (w : World) (b : NB) (s : NS) (D : Nd w b s) (hc : s.cold = true) (hh : s.H.length < maxLen) (key : ByteArray) (i : Int) (hks : key.size ≤ maxLen) :
    Calls Try.prog 17 #[.pointer (some ⟨b.nb, 0, none⟩), .string key, .int .i64 i] w (VPost b s { s with kept := s.kept, N := invN s.N key i, last := s.last, L := ldel s.L (Ls.kS key), fl := invFl s key i, H := invH s key i } (.tuple #[]) w) := by
  have HD := Lib.hid D
  have hfl : invFl s key i = Hd.noteFl 32 s.fl s.H (Hd.kS key) i := by unfold invFl; rw [if_pos hc]
  have hHH : invH s key i = Hd.noteL 32 s.H (Hd.kS key) i := by unfold invH; rw [if_pos hc]
  obtain ⟨fl', hfl'⟩ : ∃ q, invFl s key i = q := ⟨_, rfl⟩
  obtain ⟨H', hH'⟩ : ∃ q, invH s key i = q := ⟨_, rfl⟩
  rw [hfl'] at hfl ⊢
  rw [hH'] at hHH ⊢
  have Hfl := Lib.hid hfl
  have HHH := Lib.hid hHH
  clear hfl' hH' hfl hHH
  obtain ⟨⟨xv, ok⟩, hp⟩ : ∃ p, pk s.N key = p := ⟨_, rfl⟩
  have hiv : invN s.N key i = if ok = true ∧ xv.a < i then It.dropK s.N key else s.N := by unfold invN; rw [hp]
  obtain ⟨N', hN'⟩ : ∃ l, invN s.N key i = l := ⟨_, rfl⟩
  rw [hN'] at hiv ⊢
  have Hp := Lib.hid hp
  have Hiv := Lib.hid hiv
  obtain ⟨ub, hub⟩ : ∃ q, (lget s.L (Ls.kS key)).isSome = q := ⟨_, rfl⟩
  have Hub := Lib.hid hub
  have c0 := blk_cell D.blk 0
  have c1 := blk_cell D.blk 1
  have c2 := blk_cell D.blk 2
  have c3 := blk_cell D.blk 3
  have c4 := blk_cell D.blk 4
  have c5 := blk_cell D.blk 5
  have cl := blk_lt D.blk
  simp at c0 c1 c2 c3 c4 c5
  rw [hc] at c4
  clear D hp hiv hN' hub
  go_enter Try.func17, Try.ntmps17
  go_wp2_with fail
  refine (peek_all b.cb b.cm s.room s.kept s.N key _ HD.out.it hks xv ok Hp.out).mono ?_
  rintro _ w1 ⟨rfl, k1⟩
  have kx : Keep NoB w1 (w1.alloc (.cells #[.int .i64 xv.e, .int .i64 xv.i, .bool xv.th, .string xv.tx, .int .i64 xv.a] 77)) := (Keep.refl NoB w1).alloc _
  have P1 := Lib.hid (NPost.refl0 HD.out (k1.trans kx))
  clear c0 c1 c2 c3 c4 c5 cl
  have D1 := HD.out.keep0 k1
  have c0 := blk_cell D1.blk 0
  have c1 := blk_cell D1.blk 1
  have c2 := blk_cell D1.blk 2
  have c3 := blk_cell D1.blk 3
  have c4 := blk_cell D1.blk 4
  have c5 := blk_cell D1.blk 5
  have cl := blk_lt D1.blk
  simp at c0 c1 c2 c3 c4 c5
  rw [hc] at c4
  clear D1 k1 kx
  by_cases hd : ok = true ∧ xv.a < i
  · obtain ⟨rfl, ha⟩ := hd
    have d : decide (xv.a < i) = true := decide_eq_true ha
    have e1 := Hiv.out
    rw [if_pos ⟨rfl, ha⟩] at e1
    subst e1
    clear Hiv
    go_wp2_with fail
    refine (It.drop_any b.cb b.cm s.room s.kept s.N key _ P1.out.D.it hks).mono ?_
    rintro _ w2 ⟨rfl, T2, k2⟩
    have P2 := Lib.hid (P1.out.trans (P1.out.D.setI T2 k2 (fun x hx => Or.inl (It.dropK_mem hx).1)))
    clear c0 c1 c2 c3 c4 c5 cl
    have c0 := blk_cell P2.out.D.blk 0
    have c1 := blk_cell P2.out.D.blk 1
    have c2 := blk_cell P2.out.D.blk 2
    have c3 := blk_cell P2.out.D.blk 3
    have c4 := blk_cell P2.out.D.blk 4
    have c5 := blk_cell P2.out.D.blk 5
    have cl := blk_lt P2.out.D.blk
    simp at c0 c1 c2 c3 c4 c5
    simp only [hc] at c4
    clear T2 k2
    go_wp2_with fail
    refine (Ls.kill_any b.lt b.lm 32 10 s.last s.L key _ P2.out.D.ls hks ub Hub.out).mono ?_
    rintro _ w3 ⟨rfl, T3, k3⟩
    have P3 := Lib.hid (P2.out.trans (P2.out.D.setL T3 k3))
    clear c0 c1 c2 c3 c4 c5 cl
    have c0 := blk_cell P3.out.D.blk 0
    have c1 := blk_cell P3.out.D.blk 1
    have c2 := blk_cell P3.out.D.blk 2
    have c3 := blk_cell P3.out.D.blk 3
    have c4 := blk_cell P3.out.D.blk 4
    have c5 := blk_cell P3.out.D.blk 5
    have cl := blk_lt P3.out.D.blk
    simp at c0 c1 c2 c3 c4 c5
    simp only [hc] at c4
    clear T3 k3
    go_wp2_with fail
    refine (Hd.note_any b.ht b.hm 32 s.fl s.H key i _ P3.out.D.hd hks hh fl' H' Hfl.out.symm HHH.out.symm).mono ?_
    rintro _ w4 ⟨rfl, T4, k4⟩
    have P4 := Lib.hid (P3.out.trans (P3.out.D.setH T4 k4))
    clear c0 c1 c2 c3 c4 c5 cl
    clear T4 k4
    go_wp2_with fail
    go_end0
    exact ⟨rfl, P4.out⟩
  · have e1 := Hiv.out
    rw [if_neg hd] at e1
    subst e1
    clear Hiv
    have hd2 : ok = false ∨ (ok = true ∧ decide (xv.a < i) = false) := by
      cases ok
      · exact Or.inl rfl
      · exact Or.inr ⟨rfl, decide_eq_false (fun h => hd ⟨rfl, h⟩)⟩
    rcases hd2 with rfl | ⟨rfl, d⟩
    all_goals
      clear hd
      go_wp2_with fail
      refine (Ls.kill_any b.lt b.lm 32 10 s.last s.L key _ P1.out.D.ls hks ub Hub.out).mono ?_
      rintro _ w3 ⟨rfl, T3, k3⟩
      have P3 := Lib.hid (P1.out.trans (P1.out.D.setL T3 k3))
      clear c0 c1 c2 c3 c4 c5 cl
      have c0 := blk_cell P3.out.D.blk 0
      have c1 := blk_cell P3.out.D.blk 1
      have c2 := blk_cell P3.out.D.blk 2
      have c3 := blk_cell P3.out.D.blk 3
      have c4 := blk_cell P3.out.D.blk 4
      have c5 := blk_cell P3.out.D.blk 5
      have cl := blk_lt P3.out.D.blk
      simp at c0 c1 c2 c3 c4 c5
      simp only [hc] at c4
      clear T3 k3
      go_wp2_with fail
      refine (Hd.note_any b.ht b.hm 32 s.fl s.H key i _ P3.out.D.hd hks hh fl' H' Hfl.out.symm HHH.out.symm).mono ?_
      rintro _ w4 ⟨rfl, T4, k4⟩
      have P4 := Lib.hid (P3.out.trans (P3.out.D.setH T4 k4))
      clear c0 c1 c2 c3 c4 c5 cl
      clear T4 k4
      go_wp2_with fail
      go_end0
      exact ⟨rfl, P4.out⟩
theorem inval_all (w : World) (b : NB) (s : NS) (D : Nd w b s) (hh : s.H.length < maxLen) (key : ByteArray) (i : Int) (hks : key.size ≤ maxLen) :
    Calls Try.prog 17 #[.pointer (some ⟨b.nb, 0, none⟩), .string key, .int .i64 i] w (VPost b s { s with kept := s.kept, N := invN s.N key i, last := s.last, L := ldel s.L (Ls.kS key), fl := invFl s key i, H := invH s key i } (.tuple #[]) w) := by
  by_cases hct : s.cold = true
  · exact inval_cold w b s D hct hh key i hks
  · have hc : s.cold = false := by simpa using hct
    have h1 : invFl s key i = s.fl := by unfold invFl; rw [hc]; rfl
    have h2 : invH s key i = s.H := by unfold invH; rw [hc]; rfl
    rw [h1, h2]
    exact inval_any w b s D hc key i hks

/-! ### Warm -/
inductive WarmR (s : NS) (key : ByteArray) (v : IT) (sz : Int) : NS → Bool → Prop
  | no (h : ¬ (s.cold = true ∧ s.since ≤ v.a ∧ Hd.allowsB s.fl s.H (Hd.kS key) v.a = true)) : WarmR s key v sz s false
  | there (x : TH) (hf : It.fnd s.N key = some x) : WarmR s key v sz s false
  | put (hc : s.cold = true) (hs : s.since ≤ v.a) (ha : Hd.allowsB s.fl s.H (Hd.kS key) v.a = true) (hf : It.fnd s.N key = none) (s' : NS) (r : Bool) (hp : PutR s key v sz s' r) : WarmR s key v sz s' r

set_option maxHeartbeats 4000000 in
theorem warm_any (w : World) (b : NB) (s : NS) (D : Nd w b s) (key : ByteArray) (v : IT) (hks : key.size ≤ maxLen) (sz : Int) (hsz : (key.size : Int) + (v.tx.size : Int) + 32 = sz) (hbig : sz ≤ 1000000000) (hlen : s.N.length ≤ 100000) :
    Calls Try.prog 19 #[.pointer (some ⟨b.nb, 0, none⟩), .string key, .agg #[.int .i64 v.e, .int .i64 v.i, .bool v.th, .string v.tx], .int .i64 v.a] w (RelP b s (WarmR s key v sz) w) := by
  have HD := Lib.hid D
  have k0 : Keep NoB w (w.alloc (.cells #[.int .i64 v.e, .int .i64 v.i, .bool v.th, .string v.tx] 29)) := (Keep.refl NoB w).alloc _
  have r0 := blk_new w (.cells #[.int .i64 v.e, .int .i64 v.i, .bool v.th, .string v.tx] 29)
  have D0 := Lib.hid (HD.out.keep0 k0)
  obtain ⟨cb, hcb⟩ : ∃ q, s.cold = q := ⟨_, rfl⟩
  obtain ⟨ab, hab⟩ : ∃ q, Hd.allowsB s.fl s.H (Hd.kS key) v.a = q := ⟨_, rfl⟩
  have Hcb := Lib.hid hcb
  have Hab := Lib.hid hab
  have c0 := blk_cell D.blk 0
  have c1 := blk_cell D.blk 1
  have c2 := blk_cell D.blk 2
  have c3 := blk_cell D.blk 3
  have c4 := blk_cell D.blk 4
  have c5 := blk_cell D.blk 5
  have cl := blk_lt D.blk
  simp at c0 c1 c2 c3 c4 c5
  rw [hcb] at c4
  clear D hcb hab
  cases cb
  · go_enter Try.func19, Try.ntmps19
    go_wp2_with fail
    go_ret
    exact ⟨s, false, .no (fun h => by rw [Hcb.out] at h; exact absurd h.1 (by decide)), rfl, NPost.refl0 HD.out k0⟩
  · by_cases hsi : s.since ≤ v.a
    case neg =>
      have d1 : decide (v.a < s.since) = true := decide_eq_true (by omega)
      go_enter Try.func19, Try.ntmps19
      go_wp2_with fail
      go_ret
      exact ⟨s, false, .no (fun h => by have := h.2.1; omega), rfl, NPost.refl0 HD.out k0⟩
    have d1 : decide (v.a < s.since) = false := decide_eq_false (by omega)
    cases ab
    · go_enter Try.func19, Try.ntmps19
      go_wp2_with fail
      refine (Hd.allows_any b.ht b.hm 32 s.fl s.H key v.a _ D0.out.hd hks false Hab.out).mono ?_
      rintro _ w1 ⟨rfl, rfl⟩
      go_wp2_with fail
      go_ret
      exact ⟨s, false, .no (fun h => by rw [Hab.out] at h; exact absurd h.2.2 (by decide)), rfl, NPost.refl0 HD.out k0⟩
    · obtain ⟨⟨xv, ok⟩, hp⟩ : ∃ p, pk s.N key = p := ⟨_, rfl⟩
      have Hp := Lib.hid hp
      clear hp
      go_enter Try.func19, Try.ntmps19
      go_wp2_with fail
      refine (Hd.allows_any b.ht b.hm 32 s.fl s.H key v.a _ D0.out.hd hks true Hab.out).mono ?_
      rintro _ w1 ⟨rfl, rfl⟩
      go_wp2_with fail
      refine (peek_all b.cb b.cm s.room s.kept s.N key _ D0.out.it hks xv ok Hp.out).mono ?_
      rintro _ w2 ⟨rfl, k2⟩
      have kx : Keep NoB w2 (w2.alloc (.cells #[.int .i64 xv.e, .int .i64 xv.i, .bool xv.th, .string xv.tx, .int .i64 xv.a] 77)) := (Keep.refl NoB w2).alloc _
      have P2 := Lib.hid (NPost.refl0 HD.out ((k0.trans k2).trans kx))
      have b2 := blk_keep r0 k2 (fun h => h)
      obtain ⟨vb, hvb⟩ : ∃ q, w.heap.size = q := ⟨_, rfl⟩
      rw [hvb] at b2 ⊢
      have q0 := blk_cell b2 0
      have q1 := blk_cell b2 1
      have q2 := blk_cell b2 2
      have q3 := blk_cell b2 3
      have ql := blk_lt b2
      simp at q0 q1 q2 q3
      clear c0 c1 c2 c3 c4 c5 cl
      clear k0 r0 k2 kx b2
      cases ok
      · have hf : It.fnd s.N key = none := by
          cases hf : It.fnd s.N key with
          | none => rfl
          | some x => have h := Hp.out; rw [pk_some hf] at h; cases h
        have Hf := Lib.hid hf
        clear hf
        go_wp2_with fail
        generalize World.alloc w2 (.cells #[.int .i64 xv.e, .int .i64 xv.i, .bool xv.th, .string xv.tx, .int .i64 xv.a] 77) = w3 at P2 ⊢
        refine (put_any _ b s P2.out.D key v hks sz hsz hbig hlen).mono ?_
        rintro _ w4 ⟨s', r, hR, rfl, P4⟩
        have P5 := Lib.hid (P2.out.trans P4)
        have HR := Lib.hid hR
        clear P4 hR q0 q1 q2 q3
        go_wp2_with fail
        go_ret
        exact ⟨s', r, .put Hcb.out hsi Hab.out Hf.out s' r HR.out, rfl, P5.out⟩
      · have hf : ∃ x, It.fnd s.N key = some x := by
          cases hf : It.fnd s.N key with
          | none => have h := Hp.out; rw [pk_none hf] at h; cases h
          | some x => exact ⟨x, rfl⟩
        obtain ⟨x, hf⟩ := hf
        have Hf := Lib.hid hf
        clear hf
        go_wp2_with fail
        go_ret
        exact ⟨s, false, .there x Hf.out, rfl, P2.out⟩
end Go.Proofs.Ytieoejilppgebaa
