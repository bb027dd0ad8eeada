/- The document's example of package marker. -/
import Derived.Test.YtgangbkompkidaaMarkerQ
namespace Go.Proofs.Ytgangbkompkidaa
open Go Go.RowKit Go.Maps Go.Sort

abbrev tA : ByteArray := ⟨#[97]⟩
abbrev tB : ByteArray := ⟨#[98]⟩
theorem okA (n : Int) (h : (Lit.int .i64 n).wf = true) : mOk (tA, 1, n) := ⟨show tA.size ≤ maxLen by decide, show (Lit.int .i64 1).wf = true by decide, h⟩
theorem awake_any (w : World) : Calls Try.prog 8 #[] w fun e w' => e = .returned (.bool true) ∧ Keep NoB w w' := by
  have o5 := Lib.hid (okA 5 (by decide))
  have o6 := Lib.hid (okA 6 (by decide))
  have o7 := Lib.hid (okA 7 (by decide))
  have o8 := Lib.hid (show mOk (tB, 1, 8) from ⟨by decide, by decide, by decide⟩)
  have hr2 := Lib.hid (show RiseM [(tA, 1, 5), (tA, 1, 7)] from by
    unfold RiseM
    simp only [List.pairwise_cons, List.mem_singleton, List.not_mem_nil, List.Pairwise.nil, and_true]
    exact ⟨fun y e => by rw [e]; exact Or.inr ⟨rfl, Or.inr ⟨rfl, by decide⟩⟩, fun y h => h.elim⟩)
  have hU := Lib.hid (show uptoM tA 1 6 [(tA, 1, 5), (tA, 1, 7)] = [(tA, 1, 7)] from by decide)
  go_enter Try.func8, Try.ntmps8
  go_wp2_with fail
  refine (new_any 2 _).mono ?_
  rintro _ w1 ⟨rfl, T1, k1, s1⟩
  have HT1 := Lib.hid T1
  have Hk1 := Lib.hid k1
  have hmo := Lib.hid (show ∀ i, i < w.heap.size → OneB w.heap.size i → NoB i from fun i hi e => by have e' : i = w.heap.size := e; omega)
  clear T1 k1 s1
  go_wp2_with fail
  refine (set_ok _ _ 2 [] tA 1 5 _ HT1.out o5.out (by decide) (Or.inr (by decide)) [(tA, 1, 5)] (by decide) (by simp)).mono ?_
  rintro _ w2 ⟨rfl, T2, k2⟩
  have HT2 := Lib.hid T2
  have Hk2 := Lib.hid (Hk1.out.trans' k2 hmo.out)
  clear T2 k2
  go_wp2_with fail
  refine (set_ok _ _ 2 [(tA, 1, 5)] tA 1 7 _ HT2.out o7.out (by decide) (Or.inr (by decide)) [(tA, 1, 5), (tA, 1, 7)] (rise_nd hr2.out) (fun y => by simp [or_comm])).mono ?_
  rintro _ w3 ⟨rfl, T3, k3⟩
  have HT3 := Lib.hid T3
  have Hk3 := Lib.hid (Hk2.out.trans' k3 hmo.out)
  clear T3 k3
  go_wp2_with fail
  refine (set_busy _ _ 2 [(tA, 1, 5), (tA, 1, 7)] tB 1 8 _ HT3.out o8.out (by simp) (by decide)).mono ?_
  rintro _ w4 ⟨rfl, k4⟩
  have HT4 := Lib.hid (HT3.out.keep k4 (fun h => h) (fun h => h))
  have Hk4 := Lib.hid (Hk3.out.trans k4)
  clear k4
  go_wp2_with fail
  refine (clear_no _ _ 2 [(tA, 1, 5), (tA, 1, 7)] tA 1 6 _ HT4.out o6.out (by simp)).mono ?_
  rintro _ w5 ⟨rfl, k5⟩
  have HT5 := Lib.hid (HT4.out.keep k5 (fun h => h) (fun h => h))
  have Hk5 := Lib.hid (Hk4.out.trans k5)
  clear k5
  go_wp2_with fail
  refine (upto_any _ _ 2 [(tA, 1, 5), (tA, 1, 7)] _ HT5.out (by decide) hr2.out tA 1 6).mono ?_
  rintro _ w6 ⟨rfl, T6, k6⟩
  rw [hU.out] at T6 ⊢
  have HT6 := Lib.hid T6
  have Hk6 := Lib.hid (Hk5.out.trans' k6 hmo.out)
  clear T6 k6
  go_wp2_with fail
  refine (has_any _ _ 2 [(tA, 1, 7)] tA _ HT6.out true (by simp)).mono ?_
  rintro _ w7 ⟨rfl, k7⟩
  have HT7 := Lib.hid (HT6.out.keep k7 (fun h => h) (fun h => h))
  have Hk7 := Lib.hid (Hk6.out.trans k7)
  clear k7
  go_wp2_with fail
  refine (clear_yes _ _ 2 [(tA, 1, 7)] tA 1 7 _ HT7.out o7.out (by simp) [] (by simp) (fun y => by simp)).mono ?_
  rintro _ w8 ⟨rfl, T8, k8⟩
  have HT8 := Lib.hid T8
  have Hk8 := Lib.hid (Hk7.out.trans' k8 hmo.out)
  clear T8 k8
  go_wp2_with fail
  refine (len_any _ _ 2 [] _ HT8.out).mono ?_
  rintro _ w9 ⟨rfl, rfl⟩
  go_wp2
  go_ret
  exact ⟨rfl, Hk8.out⟩
end Go.Proofs.Ytgangbkompkidaa
