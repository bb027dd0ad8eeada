/- A node of the call's own; the document's example of node. -/
import Derived.Test.YtieoejilppgebaaNdG
namespace Go.Proofs.Ytieoejilppgebaa
open Go Go.RowKit Go.Maps
set_option maxRecDepth 100000

structure NL (w wr : World) (b : NB) (s : NS) : Prop where
  D : Nd wr b s
  fr : ∀ k, NK b s.N k → w.heap.size ≤ k
  hk : Keep NoB w wr
section
variable {w wr w' : World} {b : NB} {s s' : NS}
theorem NL.post (S : NL w wr b s) (P : NPost wr w' b s s') : NL w w' b s' := by
  refine ⟨P.D, fun k h => ?_, S.hk.trans' P.K (fun i hi h => by have := S.fr i h; omega)⟩
  rcases h with e | e | e | (e | e | ⟨y, hy, e⟩) | e | e | e | e
  · exact S.fr k (Or.inl e)
  · exact S.fr k (Or.inr (Or.inl e))
  · exact S.fr k (Or.inr (Or.inr (Or.inl e)))
  · exact S.fr k (Or.inr (Or.inr (Or.inr (Or.inl (Or.inl e)))))
  · exact S.fr k (Or.inr (Or.inr (Or.inr (Or.inl (Or.inr (Or.inl e))))))
  · rcases P.F y hy with h1 | h1
    · exact S.fr k (Or.inr (Or.inr (Or.inr (Or.inl (Or.inr (Or.inr ⟨y, h1, e⟩))))))
    · have := S.hk.size; omega
  · exact S.fr k (Or.inr (Or.inr (Or.inr (Or.inr (Or.inl e)))))
  · exact S.fr k (Or.inr (Or.inr (Or.inr (Or.inr (Or.inr (Or.inl e))))))
  · exact S.fr k (Or.inr (Or.inr (Or.inr (Or.inr (Or.inr (Or.inr (Or.inl e)))))))
  · exact S.fr k (Or.inr (Or.inr (Or.inr (Or.inr (Or.inr (Or.inr (Or.inr e)))))))
theorem NL.keep (S : NL w wr b s) (hk : Keep NoB wr w') : NL w w' b s := ⟨S.D.keep0 hk, S.fr, S.hk.trans hk⟩
end
theorem nl_new {w w1 w2 : World} {room' last' : Int} {b : NB} (k1 : Keep NoB w w1) (D : Nd w2 b ⟨[], room', 0, [], last', [], 0, [], false, 0⟩) (k2 : Keep NoB w1 w2) (h : ∀ k, NK b [] k → w1.heap.size ≤ k) : NL w w2 b ⟨[], room', 0, [], last', [], 0, [], false, 0⟩ :=
  ⟨D, fun k hk => Nat.le_trans k1.size (h k hk), k1.trans k2⟩


abbrev kA : ByteArray := ⟨#[97]⟩
abbrev tV : ByteArray := ⟨#[118]⟩
abbrev vV : IT := ⟨0, 0, true, tV, 3⟩
theorem okA1 : Mk.mOk (kA, 1, 1) := ⟨show kA.size ≤ maxLen by decide, show (Lit.int .i64 1).wf = true by decide, show (Lit.int .i64 1).wf = true by decide⟩

set_option maxHeartbeats 8000000 in
theorem awake_any (w : World) : Calls Try.prog 6 #[] w fun e w' => e = .returned (.bool true) ∧ Keep NoB w w' := by
  go_enter Try.func6, Try.ntmps6
  go_wp2_with fail
  refine (new_any 1000 1000 _ (by decide) (by decide)).mono ?_
  rintro _ w1 ⟨b, rfl, D1, k1, hf⟩
  have S1 := nl_new (Keep.refl NoB w) D1 k1 hf
  clear D1 k1 hf
  go_wp2_with fail
  -- a miss: token 1
  refine (get_any _ b _ _ S1.D kA (by decide) (by decide) (by decide) (by decide) (ansV 3 ⟨0, 0, false, ⟨#[]⟩, 0⟩ 1) (.miss (by simp) rfl 1 true 1 [(Ls.kS kA, (1, 10))] rfl)).mono ?_
  rintro _ w2 ⟨rfl, P2⟩
  have S2 := S1.post P2
  have a2 := blk_new w2 (.cells #[.int .i64 3, .int .i64 0, .int .i64 0, .bool false, .string ⟨#[]⟩, .int .i64 0, .int .i64 1] 31)
  have S3 := S2.keep ((Keep.refl NoB w2).alloc (.cells #[.int .i64 3, .int .i64 0, .int .i64 0, .bool false, .string ⟨#[]⟩, .int .i64 0, .int .i64 1] 31))
  clear S1 P2 S2
  go_wp2_with fail
  generalize World.alloc w2 (.cells #[.int .i64 3, .int .i64 0, .int .i64 0, .bool false, .string ⟨#[]⟩, .int .i64 0, .int .i64 1] 31) = w3 at a2 S3 ⊢
  generalize w2.heap.size = q2 at a2 ⊢
  -- Fill
  refine (fill_any _ b _ S3.D kA 1 vV (by decide) 34 (by decide) (by decide) (by decide)).mono ?_
  rintro _ w4 ⟨s4, r4, hR, rfl, P4⟩
  have a4 := P4.blk a2 S3.D (by decide) (by decide) (by decide) (by decide) (by decide) (by decide)
  have S4 := S3.post P4
  have hs4 : r4 = true ∧ ∃ xb, s4 = ⟨[], 1000, 0, [⟨xb, kA, vV, 34⟩], 1, [], 0, [], false, 0⟩ := by
    cases hR with
    | no h => exact absurd h (by decide)
    | yes h s' r hp =>
      cases hp with
      | old xv ok hp hok ha =>
        have e : (⟨⟨0, 0, false, ⟨#[]⟩, 0⟩, false⟩ : IT × Bool) = (xv, ok) := hp
        cases e
        cases hok
      | no xv ok hp hok hn => exact absurd hn (by decide)
      | new xv ok hp hok hn xb M hM =>
        have e : M = [] := by rw [← hM]; rfl
        subst e
        exact ⟨rfl, xb, rfl⟩
  obtain ⟨rfl, xb, rfl⟩ := hs4
  clear hR P4 a2 S3
  have x0 := blk_cell a4 0
  have x1 := blk_cell a4 1
  have x2 := blk_cell a4 2
  have x3 := blk_cell a4 3
  have x4 := blk_cell a4 4
  have x5 := blk_cell a4 5
  have x6 := blk_cell a4 6
  have xl := blk_lt a4
  simp at x0 x1 x2 x3 x4 x5 x6
  go_wp2_with fail
  -- a hit
  refine (get_any _ b _ _ S4.D kA (by decide) (show (0 : Nat) < maxLen by decide) (show (0 : Int) ≤ 1 by decide) (show (1 : Int) < 9223372036854775807 by decide) (ansV 1 vV 0) (.hit (by simp) ⟨xb, kA, vV, 34⟩ (by simp [It.fnd]))).mono ?_
  rintro _ w5 ⟨rfl, P5⟩
  have a5 := P5.blk a4 S4.D (by decide) (by decide) (by decide) (by decide) (by decide) (by decide)
  have S5 : NL w w5 b ⟨[], 1000, 0, [⟨xb, kA, vV, 34⟩], 1, [], 0, [], false, 0⟩ := by
    have h := S4.post P5
    have e : It.dropK [⟨xb, kA, vV, 34⟩] kA = [] := by simp [It.dropK]
    rw [e] at h
    exact h
  have b5 := blk_new w5 (.cells #[.int .i64 1, .int .i64 0, .int .i64 0, .bool true, .string tV, .int .i64 3, .int .i64 0] 31)
  have kx := (Keep.refl NoB w5).alloc (.cells #[.int .i64 1, .int .i64 0, .int .i64 0, .bool true, .string tV, .int .i64 3, .int .i64 0] 31)
  have S6 := S5.keep kx
  have a6 := blk_keep a5 kx (fun h => h)
  clear x0 x1 x2 x3 x4 x5 x6 xl S4 P5 a5 S5 a4 kx
  go_wp2_with fail
  generalize World.alloc w5 (.cells #[.int .i64 1, .int .i64 0, .int .i64 0, .bool true, .string tV, .int .i64 3, .int .i64 0] 31) = w6 at a6 b5 S6 ⊢
  generalize w5.heap.size = q5 at b5 ⊢
  -- Invalidate
  refine (inval_any _ b _ S6.D rfl kA 4 (by decide)).mono ?_
  rintro _ w7 ⟨rfl, P7⟩
  have a7 := P7.blk a6 S6.D (by decide) (by decide) (by decide) (by decide) (by decide) (by decide)
  have b7 := P7.blk b5 S6.D (by decide) (by decide) (by decide) (by decide) (by decide) (by decide)
  have S7 : NL w w7 b ⟨[], 1000, 0, [], 1, [], 0, [], false, 0⟩ := by
    have h := S6.post P7
    have e : invN [⟨xb, kA, vV, 34⟩] kA 4 = [] := by simp [invN, pk, It.fnd, It.dropK]
    rw [e] at h
    exact h
  clear a6 b5 S6 P7
  go_wp2_with fail
  -- a miss: token 2
  refine (get_any _ b _ _ S7.D kA (by decide) (by decide) (by decide) (by decide) (ansV 3 ⟨0, 0, false, ⟨#[]⟩, 0⟩ 2) (.miss (by simp) rfl 2 true 2 [(Ls.kS kA, (2, 10))] rfl)).mono ?_
  rintro _ w8 ⟨rfl, P8⟩
  have S8 := S7.post P8
  have a8 := P8.blk a7 S7.D (by decide) (by decide) (by decide) (by decide) (by decide) (by decide)
  have b8 := P8.blk b7 S7.D (by decide) (by decide) (by decide) (by decide) (by decide) (by decide)
  have c8 := blk_new w8 (.cells #[.int .i64 3, .int .i64 0, .int .i64 0, .bool false, .string ⟨#[]⟩, .int .i64 0, .int .i64 2] 31)
  have kx := (Keep.refl NoB w8).alloc (.cells #[.int .i64 3, .int .i64 0, .int .i64 0, .bool false, .string ⟨#[]⟩, .int .i64 0, .int .i64 2] 31)
  have S9 := S8.keep kx
  have a9 := blk_keep a8 kx (fun h => h)
  have b9 := blk_keep b8 kx (fun h => h)
  clear S7 P8 S8 a8 b8 a7 b7 kx
  go_wp2_with fail
  generalize World.alloc w8 (.cells #[.int .i64 3, .int .i64 0, .int .i64 0, .bool false, .string ⟨#[]⟩, .int .i64 0, .int .i64 2] 31) = w9 at a9 b9 c8 S9 ⊢
  generalize w8.heap.size = q8 at c8 ⊢
  -- Mark
  refine (mark_any _ b _ S9.D List.nodup_nil (by decide) kA 1 1 okA1 (by decide) (by decide)).mono ?_
  rintro _ w10 ⟨s10, r10, hR, rfl, P10⟩
  have a10 := P10.blk a9 S9.D (by decide) (by decide) (by decide) (by decide) (by decide) (by decide)
  have b10 := P10.blk b9 S9.D (by decide) (by decide) (by decide) (by decide) (by decide) (by decide)
  have c10 := P10.blk c8 S9.D (by decide) (by decide) (by decide) (by decide) (by decide) (by decide)
  have S10 := S9.post P10
  have hs10 : r10 = 0 ∧ s10 = ⟨[(kA, 1, 1)], 1000, 33, [], 2, [(Ls.kS kA, (2, 10))], 0, [], false, 0⟩ := by
    cases hR with
    | there h => cases h
    | busy h hl => exact absurd hl (by decide)
    | full h hl n hn hf =>
      have hn' : (1 : Int) + 32 = n := hn
      have hf' : (1000 : Int) - 0 < n := hf
      omega
    | ok h hl n hn hf N' hN =>
      have hn' : (1 : Int) + 32 = n := hn
      obtain rfl : n = 33 := by omega
      have e : N' = [] := by rw [← hN]; rfl
      subst e
      exact ⟨rfl, rfl⟩
  obtain ⟨rfl, rfl⟩ := hs10
  clear hR P10 a9 b9 c8 S9
  have x0 := blk_cell a10 0
  have x6 := blk_cell a10 6
  have xl := blk_lt a10
  have y0 := blk_cell b10 0
  have y4 := blk_cell b10 4
  have y5 := blk_cell b10 5
  have yl := blk_lt b10
  have z0 := blk_cell c10 0
  have zl := blk_lt c10
  simp at x0 x6 y0 y4 y5 z0
  clear a10 b10 c10
  go_wp2_with fail
  refine (get_any _ b _ _ S10.D kA (by decide) (by decide) (by decide) (by decide) (ansV 2 ⟨0, 0, false, ⟨#[]⟩, 0⟩ 0) (.marked (by simp))).mono ?_
  rintro _ w11 ⟨rfl, P11⟩
  simp only [ansV]
  have hfld : ∀ u : World, (Instr.field 31 (.agg #[.int .i64 2, .int .i64 0, .int .i64 0, .bool false, .string ⟨#[]⟩, .int .i64 0, .int .i64 0]) 0).run Try.prog u = .ok (.int .i64 2) u := fun u => by kernel_rfl
  have S11 := S10.post P11
  clear S10 P11
  go_wp2_with fail
  go_ret
  exact ⟨rfl, S11.hk⟩
end Go.Proofs.Ytieoejilppgebaa
