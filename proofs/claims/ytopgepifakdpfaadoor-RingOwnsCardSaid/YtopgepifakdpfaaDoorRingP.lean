/- Owners of any ring, Owner, Nodes, With, Without of package ring. -/
import Derived.Test.YtopgepifakdpfaaDoorRingR
namespace Go.Proofs.YtopgepifakdpfaaDoor
open Go Go.RowKit Go.Maps Go.Sort
set_option maxRecDepth 100000

theorem ow_nil (W : BA → Int) : Ow W [] [] := ⟨List.Perm.refl _, List.Pairwise.nil⟩
theorem owners_none (w : World) (B rb : Nat) (hR : Rg w B rb []) (key : BA) (n : Int) :
    Calls Tryd.prog 12 #[.pointer (some ⟨rb, 0, none⟩), .string key, .int .i64 n] w (OwnersP w B rb [] key n) := by
  have HR := Lib.hid hR
  obtain ⟨hB1, na, nc, dn, sm, pa, pc, P, h1, _⟩ := hR
  have c0 := blk_cell h1 0
  have cl := blk_lt h1
  simp at c0
  clear h1
  go_enter Tryd.func12, Tryd.ntmps12
  go_wp2_with fail
  go_ret
  have k0 := (Keep.refl NoB w).alloc (.cells #[.pointer (some ⟨rb, 0, none⟩)] 26)
  exact ⟨none, 0, [], [], ow_nil _, by simp, rfl, Own.nil _ _ _ _ _, HR.out.keep0 k0, k0.none⟩
theorem owners_any (w : World) (B rb : Nat) (L : List BA) (hB : B ≤ w.heap.size) (hR : Rg w B rb L) (hL : L.length ≤ 8) (hLr : RiseB L) (hsz : ∀ x ∈ L, x.size ≤ 140737488355328) (key : BA) (hks : key.size ≤ maxLen) (n : Int) :
    Calls Tryd.prog 12 #[.pointer (some ⟨rb, 0, none⟩), .string key, .int .i64 n] w (OwnersP w B rb L key n) := by
  by_cases h0 : L = []
  · subst h0
    exact owners_none w B rb hR key n
  · exact owners_some w B rb L hB hR hL hLr h0 hsz key hks n
def OwnerP (w : World) (B rb : Nat) (L : List BA) (key : BA) (e : Ending) (w' : World) : Prop :=
  ∃ (O : List BA), Ow (way pt (hash key)) L O ∧ e = .returned (.tuple #[.string (O.head?.getD ⟨#[]⟩), .bool O.head?.isSome]) ∧ Rg w' B rb L ∧ Keep (OneB rb) w w'
theorem owner_any (w : World) (B rb : Nat) (L : List BA) (hB : B ≤ w.heap.size) (hR : Rg w B rb L) (hL : L.length ≤ 8) (hLr : RiseB L) (hsz : ∀ x ∈ L, x.size ≤ 140737488355328) (key : BA) (hks : key.size ≤ maxLen) :
    Calls Tryd.prog 14 #[.pointer (some ⟨rb, 0, none⟩), .string key] w (OwnerP w B rb L key) := by
  go_enter Tryd.func14, Tryd.ntmps14
  go_wp2_with fail
  refine (owners_any w B rb L hB hR hL hLr hsz key hks 1).mono ?_
  rintro _ w1 ⟨a, c, O, O', hO, hO', rfl, Ow1, R1, k1⟩
  have HO := Lib.hid hO
  have HR := Lib.hid R1
  have HK := Lib.hid k1
  cases O with
  | nil =>
    have e : O' = [] := by rw [← hO']; rfl
    subst e
    clear hO hO' R1 k1 Ow1
    go_wp2_with fail
    refine bodyPost_ret (v := .tuple #[.string ⟨#[]⟩, .bool false]) (by simp [results, Tryd.results14]) rfl ?_
    exact ⟨[], HO.out, rfl, HR.out, HK.out⟩
  | cons x r =>
    have e : O' = [x] := by rw [← hO']; rfl
    subst e
    obtain ⟨g, cg, hvv, hg1, hg2, hcx⟩ := Ow1.cells cS_len (j := 0) (x := x) rfl
    cases hvv
    have m0 := hcx 0 _ rfl
    simp only [Nat.zero_mul, Nat.add_zero] at m0
    clear hO hO' R1 k1 Ow1 hcx
    go_wp2_with fail
    refine bodyPost_ret (v := .tuple #[.string x, .bool true]) (by simp [results, Tryd.results14]) rfl ?_
    exact ⟨x :: r, HO.out, rfl, HR.out, HK.out⟩
/-- Nodes. -/
theorem nodes_any (w : World) (B rb : Nat) (L : List BA) (hR : Rg w B rb L) (hL : L.length ≤ 8) :
    Calls Tryd.prog 13 #[.pointer (some ⟨rb, 0, none⟩)] w fun e w' => ∃ a c, e = .returned (.slice a L.length c) ∧ Own w' w.heap.size 9 1 cS (.slice a L.length c) L ∧ Keep NoB w w' := by
  obtain ⟨hB1, na, nc, dn, sm, pa, pc, P, h1, h2, _⟩ := hR
  have HO := Lib.hid h2
  have c0 := blk_cell h1 0
  have cl := blk_lt h1
  simp at c0
  have k0 := (Keep.refl NoB w).alloc (.cells #[] 9)
  have Hk0 := Lib.hid k0
  have He := Lib.hid (Own.empty w (Nat.le_refl _) 9 1 cS)
  have HO1 := Lib.hid (HO.out.keep k0 (fun _ _ h => h))
  clear h1 h2 k0
  rcases HO1.out.2 with ⟨hv, hn⟩ | ⟨g, cap, cur, hv, _⟩
  · have hL0 : L = [] := List.eq_nil_of_length_eq_zero hn
    subst hL0
    cases hv
    go_enter Tryd.func13, Tryd.ntmps13
    obtain ⟨i9, hi9, _⟩ := info_parts info9'
    go_wp2_with (at_builtin; refine wpList_append_own_none rfl (.tmp 5) (.tmp 9) 22 rfl w.heap.size 9 i9 1 Tryd.underlying22 hi9 _ 0 [] rfl He.out rfl ?_)
    go_ret
    exact ⟨some ⟨w.heap.size, 0, none⟩, 0, rfl, He.out, Hk0.out⟩
  · cases hv
    have hf := HO1.out.from cS_len 0
    have Hf := Lib.hid hf
    clear hf
    go_enter Tryd.func13, Tryd.ntmps13
    go_wp2_with (at_builtin; refine wpList_append_list (B := w.heap.size) rfl (.tmp 5) (.tmp 9) 22 rfl Tryd.underlying22 info9' (by kernel_rfl) (by decide) (by decide) rfl He.out cS_len cS_one L rfl rfl (by have := Hf.out; simpa using this) (by simp; omega) (by simp) (N' := L) (by simp) ?_; intro a4 c4 w4 O4 k4; have HO4 := Lib.hid O4; have Hk4 := Lib.hid (Hk0.out.trans' k4 (fun i hi e => by have := He.out.fresh i e; omega)); clear O4 k4)
    go_ret
    exact ⟨a4, c4, rfl, HO4.out, Hk4.out⟩
end Go.Proofs.YtopgepifakdpfaaDoor
