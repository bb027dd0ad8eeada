/- The example of chapter 6. -/
import Derived.Test.YtgbcjnejlelndaaLruS
namespace Go.Proofs.Ytgbcjnejlelndaa
open Go Go.RowKit Go.Maps

set_option maxHeartbeats 1000000 in
theorem awake_any (w : World) : Calls Try.prog 9 #[] w fun e w' => e = .returned (.bool true) ∧ Keep NoB w w' := by
  go_enter Try.func9, Try.ntmps9
  go_wp2_with fail
  refine (new_any 10 10 w (by decide) (by decide)).mono ?_
  rintro _ w1 ⟨rfl, T1, k1, s1⟩
  generalize hcb : w.heap.size + 1 = cb at T1
  generalize hmb : w.heap.size = mb at T1
  have Hcb := Lib.hid hcb
  have Hmb := Lib.hid hmb
  clear s1 hcb hmb
  go_wp2_with fail
  refine (put_ok cb mb 10 0 [] ⟨#[97]⟩ 4 1 w1 T1 (by decide) (by decide) (by decide) (by decide) [] [] (by rfl) (by rfl)).mono ?_
  rintro _ w2 ⟨a2, c2, b2, rfl, hb2, _, T2, k2⟩
  go_wp2_with fail
  refine (put_ok cb mb 10 0 _ ⟨#[98]⟩ 4 2 w2 T2 (by decide) (by decide) (by decide) (by simp) [⟨b2, ⟨#[97]⟩, 1, 4⟩] [] (by rfl) (by rfl)).mono ?_
  rintro _ w3 ⟨a3, c3, b3, rfl, hb3, _, T3, k3⟩
  go_wp2_with fail
  refine (get_hit cb mb 10 0 _ ⟨#[97]⟩ ⟨b2, ⟨#[97]⟩, 1, 4⟩ w3 T3 (by decide) (by rfl)).mono ?_
  rintro _ w4 ⟨rfl, T4, k4⟩
  have e4 : (⟨b2, ⟨#[97]⟩, 1, 4⟩ :: dropK [⟨b3, ⟨#[98]⟩, 2, 4⟩, ⟨b2, ⟨#[97]⟩, 1, 4⟩] ⟨#[97]⟩ : List TH) = [⟨b2, ⟨#[97]⟩, 1, 4⟩, ⟨b3, ⟨#[98]⟩, 2, 4⟩] := by rfl
  rw [e4] at T4
  clear e4
  go_wp2_with fail
  refine (put_ok cb mb 10 0 _ ⟨#[99]⟩ 4 3 w4 T4 (by decide) (by decide) (by decide) (by simp) [⟨b2, ⟨#[97]⟩, 1, 4⟩] [⟨#[98]⟩] (by rfl) (by rfl)).mono ?_
  rintro _ w5 ⟨a5, c5, b5, rfl, hb5, O5, T5, k5⟩
  obtain ⟨g, hv, hg1, hg2, m0, m1⟩ := O5.cell1 cS_len (j := 0) (x := ⟨#[98]⟩) rfl rfl
  cases hv
  have HT5 := Lib.hid T5
  have HO5 := Lib.hid O5
  have h1 : w.heap.size ≤ w1.heap.size := k1.size
  have h2 := k2.size
  have h3 := k3.size
  have h4 := k4.size
  have K2 : Keep NoB w w2 := k1.trans' k2 (fun i hi h => by have := Hcb.out; have := Hmb.out; rcases h with e | e | ⟨y, hy, e⟩; omega; omega; simp at hy)
  have K3 : Keep NoB w w3 := K2.trans' k3 (fun i hi h => by
    have := Hcb.out; have := Hmb.out
    rcases h with e | e | ⟨y, hy, e⟩
    · omega
    · omega
    · simp at hy; subst hy; simp only at e; omega)
  have K4 : Keep NoB w w4 := K3.trans' k4 (fun i hi h => by
    have := Hcb.out; have := Hmb.out
    rcases h with e | e | ⟨y, hy, e⟩
    · omega
    · omega
    · simp at hy; rcases hy with rfl | rfl <;> (simp only at e; omega))
  have K5 : Keep NoB w w5 := K4.trans' k5 (fun i hi h => by
    have := Hcb.out; have := Hmb.out
    rcases h with e | e | ⟨y, hy, e⟩
    · omega
    · omega
    · simp at hy; rcases hy with rfl | rfl <;> (simp only at e; omega))
  have HK := Lib.hid K5
  clear T1 T2 T3 T4 T5 O5 k1 k2 k3 k4 k5 K2 K3 K4 K5 hb2 hb3 hb5 h1 h2 h3 h4
  go_wp2_with (go_at_call 16; refine (used_any cb mb 10 0 _ w5 HT5.out 8 (by rfl)).mono ?_; rintro _ w6 ⟨rfl, k6⟩)
  go_ret
  exact ⟨rfl, HK.out.trans k6⟩
end Go.Proofs.Ytgbcjnejlelndaa
