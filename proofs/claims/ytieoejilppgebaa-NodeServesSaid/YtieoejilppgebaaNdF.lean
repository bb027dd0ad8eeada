/- What Peek, Unmark, Mark, Fill, Invalidate of package node come to. -/
import Derived.Test.YtieoejilppgebaaNdE
namespace Go.Proofs.Ytieoejilppgebaa
open Go Go.RowKit Go.Maps
set_option maxRecDepth 100000


/-! ### put -/
inductive PutR (s : NS) (key : ByteArray) (v : IT) (sz : Int) : NS → Bool → Prop
  | old (xv : IT) (ok : Bool) (hp : pk s.N key = (xv, ok)) (hok : ok = true) (ha : v.a ≤ xv.a) : PutR s key v sz s true
  | no (xv : IT) (ok : Bool) (hp : pk s.N key = (xv, ok)) (hok : ok = false ∨ xv.a < v.a) (hn : s.room - s.kept < sz) : PutR s key v sz { s with kept := s.kept, N := It.dropK s.N key } false
  | new (xv : IT) (ok : Bool) (hp : pk s.N key = (xv, ok)) (hok : ok = false ∨ xv.a < v.a) (hn : sz ≤ s.room - s.kept) (xb : Nat) (M : List TH) (hM : (It.dropK s.N key).take (It.wayJ (s.room - sz - s.kept) (It.dropK s.N key) (It.dropK s.N key).length) = M) : PutR s key v sz { s with kept := s.kept, N := ⟨xb, key, v, sz⟩ :: M } true
def RelP (b : NB) (s : NS) (R : NS → Bool → Prop) (w : World) (e : Ending) (w' : World) : Prop := ∃ s' r, R s' r ∧ e = .returned (.bool r) ∧ NPost w w' b s s'

theorem put_any (w : World) (b : NB) (s : NS) (D : Nd w b s) (key : ByteArray) (v : IT) (hks : key.size ≤ maxLen) (sz : Int) (hsz : (key.size : Int) + (v.tx.size : Int) + 32 = sz) (hbig : sz ≤ 1000000000) (hlen : s.N.length ≤ 100000) :
    Calls Try.prog 27 #[.pointer (some ⟨b.nb, 0, none⟩), .string key, .agg #[.int .i64 v.e, .int .i64 v.i, .bool v.th, .string v.tx], .int .i64 v.a] w (RelP b s (PutR s key v sz) w) := by
  obtain ⟨⟨xv, ok⟩, hp⟩ : ∃ p, pk s.N key = p := ⟨_, rfl⟩
  by_cases hc : ok = true ∧ v.a ≤ xv.a
  · refine (put_old w b s D key v hks xv ok hp hc.1 hc.2).mono ?_
    rintro _ w' ⟨rfl, P⟩
    exact ⟨s, true, .old xv ok hp hc.1 hc.2, rfl, P⟩
  · have hok : ok = false ∨ xv.a < v.a := by
      cases ok
      · exact Or.inl rfl
      · right
        have : ¬ v.a ≤ xv.a := fun h => hc ⟨rfl, h⟩
        omega
    by_cases hn : sz ≤ s.room - s.kept
    · refine (put_new w b s D key v hks xv ok hp hok sz hsz hbig hn hlen _ _ rfl rfl).mono ?_
      rintro _ w' ⟨xb, rfl, P⟩
      exact ⟨_, true, .new xv ok hp hok hn xb _ rfl, rfl, P⟩
    · refine (put_no w b s D key v hks xv ok hp hok sz hsz hbig (by omega)).mono ?_
      rintro _ w' ⟨rfl, P⟩
      exact ⟨_, false, .no xv ok hp hok (by omega), rfl, P⟩

/-! ### Fill -/
inductive FillR (s : NS) (key : ByteArray) (t : Int) (v : IT) (sz : Int) : NS → Bool → Prop
  | no (h : Ls.useB s.L (Ls.kS key) t = false) : FillR s key t v sz s false
  | yes (h : Ls.useB s.L (Ls.kS key) t = true) (s' : NS) (r : Bool) (hp : PutR { s with last := s.last, L := ldel s.L (Ls.kS key) } key v sz s' r) : FillR s key t v sz s' r

set_option maxHeartbeats 8000000 in
theorem fill_any (w : World) (b : NB) (s : NS) (D : Nd w b s) (key : ByteArray) (t : Int) (v : IT) (hks : key.size ≤ maxLen) (sz : Int) (hsz : (key.size : Int) + (v.tx.size : Int) + 32 = sz) (hbig : sz ≤ 1000000000) (hlen : s.N.length ≤ 100000) :
    Calls Try.prog 9 #[.pointer (some ⟨b.nb, 0, none⟩), .string key, .int .i64 t, .agg #[.int .i64 v.e, .int .i64 v.i, .bool v.th, .string v.tx], .int .i64 v.a] w (RelP b s (FillR s key t v sz) w) := by
  have HD := Lib.hid D
  have k0 : Keep NoB w (w.alloc (.cells #[.int .i64 v.e, .int .i64 v.i, .bool v.th, .string v.tx] 29)) := (Keep.refl NoB w).alloc _
  have r0 := blk_new w (.cells #[.int .i64 v.e, .int .i64 v.i, .bool v.th, .string v.tx] 29)
  have D0 := HD.out.keep0 k0
  obtain ⟨ub, hu⟩ : ∃ q, Ls.useB s.L (Ls.kS key) t = q := ⟨_, rfl⟩
  have Hu := Lib.hid hu
  have c0 := blk_cell D.blk 0
  have c1 := blk_cell D.blk 1
  have c2 := blk_cell D.blk 2
  have c3 := blk_cell D.blk 3
  have c4 := blk_cell D.blk 4
  have c5 := blk_cell D.blk 5
  have cl := blk_lt D.blk
  simp at c0 c1 c2 c3 c4 c5
  clear D hu
  cases ub
  · go_enter Try.func9, Try.ntmps9
    go_wp2_with fail
    refine (Ls.use_any b.lt b.lm 32 10 s.last s.L key t _ D0.ls hks false Hu.out s.L (by unfold Ls.useL; rw [Hu.out]; rfl)).mono ?_
    rintro _ w1 ⟨rfl, T1, k1⟩
    have P1 := Lib.hid (NPost.pre k0 (D0.setL T1 k1) HD.out)
    clear T1 k1
    go_wp2_with fail
    go_ret
    exact ⟨s, false, .no Hu.out, rfl, P1.out⟩
  · go_enter Try.func9, Try.ntmps9
    go_wp2_with fail
    refine (Ls.use_any b.lt b.lm 32 10 s.last s.L key t _ D0.ls hks true Hu.out (ldel s.L (Ls.kS key)) (by unfold Ls.useL; rw [Hu.out]; rfl)).mono ?_
    rintro _ w1 ⟨rfl, T1, k1⟩
    have Q1 := D0.setL T1 k1
    have b1 := Q1.blk r0 D0 (by decide) (by decide) (by decide) (by decide) (by decide) (by decide)
    have P1 := Lib.hid (NPost.pre k0 Q1 HD.out)
    obtain ⟨vb, hvb⟩ : ∃ q, w.heap.size = q := ⟨_, rfl⟩
    rw [hvb] at b1 ⊢
    have q0 := blk_cell b1 0
    have q1 := blk_cell b1 1
    have q2 := blk_cell b1 2
    have q3 := blk_cell b1 3
    have ql := blk_lt b1
    simp at q0 q1 q2 q3
    clear T1 k1 Q1 b1 r0 D0
    clear c0 c1 c2 c3 c4 c5 cl
    go_wp2_with fail
    refine (put_any w1 b _ P1.out.D key v hks sz hsz hbig hlen).mono ?_
    rintro _ w2 ⟨s', r, hR, rfl, P2⟩
    have P3 := Lib.hid (P1.out.trans P2)
    have HR := Lib.hid hR
    clear P2 hR q0 q1 q2 q3
    cases r
    all_goals
      go_wp2_with fail
      go_ret
      exact ⟨s', _, .yes Hu.out s' _ HR.out, rfl, P3.out⟩

/-! ### Unmark -/
inductive UnmarkR (s : NS) (x : MK) : NS → Bool → Prop
  | no (h : x ∉ s.M) : UnmarkR s x s false
  | yes (h : x ∈ s.M) (k' : Int) (hk : s.kept - min ((x.1.size : Int) + 32) s.kept = k') : UnmarkR s x { s with M := s.M.filter (fun y => decide (y ≠ x)), kept := k' } true

set_option maxHeartbeats 8000000 in
theorem unmark_any (w : World) (b : NB) (s : NS) (D : Nd w b s) (hnd : s.M.Nodup) (key : ByteArray) (se rq : Int) (hx : Mk.mOk (key, se, rq)) (hbig : (key.size : Int) ≤ 1000000000) :
    Calls Try.prog 11 #[.pointer (some ⟨b.nb, 0, none⟩), .string key, .int .i64 se, .int .i64 rq] w (RelP b s (UnmarkR s (key, se, rq)) w) := by
  have HD := Lib.hid D
  have hw1 : IntKind.i64.wrap ((key.size : Int) + 32) = (key.size : Int) + 32 := IntWalk.i64_in _ (by omega)
  have c0 := blk_cell D.blk 0
  have c1 := blk_cell D.blk 1
  have c2 := blk_cell D.blk 2
  have c3 := blk_cell D.blk 3
  have c4 := blk_cell D.blk 4
  have c5 := blk_cell D.blk 5
  have cl := blk_lt D.blk
  simp at c0 c1 c2 c3 c4 c5
  clear D
  by_cases hm : (key, se, rq) ∈ s.M
  · go_enter Try.func11, Try.ntmps11
    go_wp2_with fail
    refine (Mk.clear_yes b.mt b.mm 32 s.M key se rq _ HD.out.mks hx hm (s.M.filter (fun y => decide (y ≠ (key, se, rq)))) (hnd.filter _) (fun y => by rw [List.mem_filter]; simp [and_comm])).mono ?_
    rintro _ w1 ⟨rfl, T1, k1⟩
    have P1 := Lib.hid (HD.out.setM T1 k1)
    obtain ⟨k', hk'⟩ : ∃ q, s.kept - min ((key.size : Int) + 32) s.kept = q := ⟨_, rfl⟩
    have Hk' := Lib.hid hk'
    clear T1 k1 hk'
    clear c0 c1 c2 c3 c4 c5 cl
    have c0 := blk_cell P1.out.D.blk 0
    have c1 := blk_cell P1.out.D.blk 1
    have c2 := blk_cell P1.out.D.blk 2
    have c3 := blk_cell P1.out.D.blk 3
    have c4 := blk_cell P1.out.D.blk 4
    have c5 := blk_cell P1.out.D.blk 5
    have cl := blk_lt P1.out.D.blk
    simp at c0 c1 c2 c3 c4 c5
    go_wp2_with fail
    refine (It.release_any b.cb b.cm s.room s.kept s.N ((key.size : Int) + 32) _ k' _ P1.out.D.it (by omega) rfl Hk'.out).mono ?_
    rintro _ w2 ⟨rfl, T2, k2⟩
    have P2 := Lib.hid (P1.out.trans (P1.out.D.setI T2 k2 (fun x hx => Or.inl hx)))
    clear T2 k2
    clear c0 c1 c2 c3 c4 c5 cl
    go_wp2_with fail
    go_ret
    exact ⟨_, true, .yes hm k' Hk'.out, rfl, P2.out⟩
  · go_enter Try.func11, Try.ntmps11
    go_wp2_with fail
    refine (Mk.clear_no b.mt b.mm 32 s.M key se rq _ HD.out.mks hx hm).mono ?_
    rintro _ w1 ⟨rfl, k1⟩
    have P1 := Lib.hid (NPost.refl0 HD.out k1)
    clear k1
    clear c0 c1 c2 c3 c4 c5 cl
    go_wp2_with fail
    go_ret
    exact ⟨s, false, .no hm, rfl, P1.out⟩

/-! ### Mark -/
inductive MarkR (s : NS) (x : MK) : NS → Int → Prop
  | there (h : x ∈ s.M) : MarkR s x s 0
  | busy (h : x ∉ s.M) (hl : 32 ≤ s.M.length) : MarkR s x s 4
  | full (h : x ∉ s.M) (hl : s.M.length < 32) (n : Int) (hn : (x.1.size : Int) + 32 = n) (hf : s.room - s.kept < n) : MarkR s x s 4
  | ok (h : x ∉ s.M) (hl : s.M.length < 32) (n : Int) (hn : (x.1.size : Int) + 32 = n) (hf : n ≤ s.room - s.kept) (N' : List TH) (hN : s.N.take (It.wayJ (s.room - n - s.kept) s.N s.N.length) = N') : MarkR s x { s with M := x :: s.M, kept := s.kept + n, N := N' } 0
def RelI (b : NB) (s : NS) (R : NS → Int → Prop) (w : World) (e : Ending) (w' : World) : Prop := ∃ s' r, R s' r ∧ e = .returned (.int .i64 r) ∧ NPost w w' b s s'

set_option maxHeartbeats 8000000 in
theorem mark_any (w : World) (b : NB) (s : NS) (D : Nd w b s) (hnd : s.M.Nodup) (hM32 : s.M.length ≤ 32) (key : ByteArray) (se rq : Int) (hx : Mk.mOk (key, se, rq)) (hbig : (key.size : Int) ≤ 1000000000) (hlen : s.N.length ≤ 100000) :
    Calls Try.prog 10 #[.pointer (some ⟨b.nb, 0, none⟩), .string key, .int .i64 se, .int .i64 rq] w (RelI b s (MarkR s (key, se, rq)) w) := by
  have HD := Lib.hid D
  obtain ⟨n, hn⟩ : ∃ n, (key.size : Int) + 32 = n := ⟨_, rfl⟩
  have Hn := Lib.hid hn
  have hw1 : IntKind.i64.wrap ((key.size : Int) + 32) = n := by rw [hn]; exact IntWalk.i64_in _ (by omega)
  have hn0 : 0 ≤ n := by omega
  have Hnd := Lib.hid hnd
  have c0 := blk_cell D.blk 0
  have c1 := blk_cell D.blk 1
  have c2 := blk_cell D.blk 2
  have c3 := blk_cell D.blk 3
  have c4 := blk_cell D.blk 4
  have c5 := blk_cell D.blk 5
  have cl := blk_lt D.blk
  simp at c0 c1 c2 c3 c4 c5
  clear D hnd
  by_cases hm : (key, se, rq) ∈ s.M
  · clear hn
    have hml : s.M.length < maxLen := by unfold maxLen; omega
    go_enter Try.func10, Try.ntmps10
    go_wp2_with fail
    refine (Mk.len_any b.mt b.mm 32 s.M _ HD.out.mks).mono ?_
    rintro _ w1 ⟨rfl, rfl⟩
    go_wp2_with fail
    refine (Mk.set_ok b.mt b.mm 32 s.M key se rq _ HD.out.mks hx hml (Or.inl hm) s.M Hnd.out (fun y => ⟨Or.inr, fun h => h.elim (fun e => by rw [e]; exact hm) id⟩)).mono ?_
    rintro _ w2 ⟨rfl, T2, k2⟩
    have P2 := Lib.hid (HD.out.setM T2 k2)
    clear T2 k2
    clear c0 c1 c2 c3 c4 c5 cl
    have c0 := blk_cell P2.out.D.blk 0
    have c1 := blk_cell P2.out.D.blk 1
    have c2 := blk_cell P2.out.D.blk 2
    have c3 := blk_cell P2.out.D.blk 3
    have c4 := blk_cell P2.out.D.blk 4
    have c5 := blk_cell P2.out.D.blk 5
    have cl := blk_lt P2.out.D.blk
    simp at c0 c1 c2 c3 c4 c5
    go_wp2_with fail
    refine (Mk.len_any b.mt b.mm 32 s.M _ P2.out.D.mks).mono ?_
    rintro _ w3 ⟨rfl, rfl⟩
    go_wp2_with fail
    go_ret
    exact ⟨s, 0, .there hm, rfl, P2.out⟩
  · by_cases hl : s.M.length < 32
    · have hM1 : ((key, se, rq) :: s.M).Nodup := List.nodup_cons.2 ⟨hm, Hnd.out⟩
      have HM1 := Lib.hid hM1
      obtain ⟨M1, hM1'⟩ : ∃ l, (key, se, rq) :: s.M = l := ⟨_, rfl⟩
      have HM1' := Lib.hid hM1'
      have hne : ((M1.length : Int) == (s.M.length : Int)) = false := by rw [← hM1']; simp; omega
      clear hM1 hM1' hn
      go_enter Try.func10, Try.ntmps10
      go_wp2_with fail
      refine (Mk.len_any b.mt b.mm 32 s.M _ HD.out.mks).mono ?_
      rintro _ w1 ⟨rfl, rfl⟩
      go_wp2_with fail
      refine (Mk.set_ok b.mt b.mm 32 s.M key se rq _ HD.out.mks hx (by unfold maxLen; omega) (Or.inr (by omega)) M1 (by rw [← HM1'.out]; exact HM1.out) (fun y => by rw [← HM1'.out]; exact List.mem_cons)).mono ?_
      rintro _ w2 ⟨rfl, T2, k2⟩
      have P2 := Lib.hid (HD.out.setM T2 k2)
      clear T2 k2
      clear c0 c1 c2 c3 c4 c5 cl
      have c0 := blk_cell P2.out.D.blk 0
      have c1 := blk_cell P2.out.D.blk 1
      have c2 := blk_cell P2.out.D.blk 2
      have c3 := blk_cell P2.out.D.blk 3
      have c4 := blk_cell P2.out.D.blk 4
      have c5 := blk_cell P2.out.D.blk 5
      have cl := blk_lt P2.out.D.blk
      simp at c0 c1 c2 c3 c4 c5
      go_wp2_with fail
      refine (Mk.len_any b.mt b.mm 32 M1 _ P2.out.D.mks).mono ?_
      rintro _ w3 ⟨rfl, rfl⟩
      by_cases hf : n ≤ s.room - s.kept
      · obtain ⟨N', hN⟩ : ∃ l, s.N.take (It.wayJ (s.room - n - s.kept) s.N s.N.length) = l := ⟨_, rfl⟩
        have HN := Lib.hid hN
        clear hN
        go_wp2_with fail
        refine (It.reserve_ok b.cb b.cm s.room s.kept s.N n _ P2.out.D.it hn0 hf hlen N' _ HN.out rfl).mono ?_
        rintro _ w4 ⟨a9, c9, rfl, O4, T4, k4⟩
        have P4 := Lib.hid (P2.out.trans (P2.out.D.setI T4 k4 (fun x hx => by rw [← HN.out] at hx; exact Or.inl (List.mem_of_mem_take hx))))
        clear T4 k4 O4
        clear c0 c1 c2 c3 c4 c5 cl
        go_wp2_with fail
        go_ret
        have e1 := HM1'.out
        subst e1
        exact ⟨_, 0, .ok hm hl n Hn.out hf N' HN.out, rfl, P4.out⟩
      · go_wp2_with fail
        refine (It.reserve_no b.cb b.cm s.room s.kept s.N n _ P2.out.D.it (Or.inr (by omega))).mono ?_
        rintro _ w4 ⟨rfl, k4⟩
        have P4 := Lib.hid (P2.out.keep0 k4)
        clear k4
        clear c0 c1 c2 c3 c4 c5 cl
        have c0 := blk_cell P4.out.D.blk 0
        have c1 := blk_cell P4.out.D.blk 1
        have c2 := blk_cell P4.out.D.blk 2
        have c3 := blk_cell P4.out.D.blk 3
        have c4 := blk_cell P4.out.D.blk 4
        have c5 := blk_cell P4.out.D.blk 5
        have cl := blk_lt P4.out.D.blk
        simp at c0 c1 c2 c3 c4 c5
        go_wp2_with fail
        refine (Mk.clear_yes b.mt b.mm 32 M1 key se rq _ P4.out.D.mks hx (by rw [← HM1'.out]; exact List.mem_cons_self) s.M Hnd.out (fun y => by
          rw [← HM1'.out, List.mem_cons]
          constructor
          · intro h
            exact ⟨fun e => hm (by rw [← e]; exact h), Or.inr h⟩
          · rintro ⟨h1, h2⟩
            exact h2.resolve_left h1)).mono ?_
        rintro _ w5 ⟨rfl, T5, k5⟩
        have P5 := Lib.hid (P4.out.trans (P4.out.D.setM T5 k5))
        clear T5 k5
        clear c0 c1 c2 c3 c4 c5 cl
        go_wp2_with fail
        go_ret
        exact ⟨s, 4, .full hm hl n Hn.out (by omega), rfl, P5.out⟩
    · clear hn
      go_enter Try.func10, Try.ntmps10
      go_wp2_with fail
      refine (Mk.len_any b.mt b.mm 32 s.M _ HD.out.mks).mono ?_
      rintro _ w1 ⟨rfl, rfl⟩
      go_wp2_with fail
      refine (Mk.set_busy b.mt b.mm 32 s.M key se rq _ HD.out.mks hx hm (by omega)).mono ?_
      rintro _ w2 ⟨rfl, k2⟩
      have P2 := Lib.hid (NPost.refl0 HD.out k2)
      clear k2
      clear c0 c1 c2 c3 c4 c5 cl
      go_wp2_with fail
      go_ret
      exact ⟨s, 4, .busy hm (by omega), rfl, P2.out⟩
end Go.Proofs.Ytieoejilppgebaa
