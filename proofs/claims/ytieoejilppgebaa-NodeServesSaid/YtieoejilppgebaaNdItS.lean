/- Clear, Keys of package lru; the nil cache; the example. -/
import Derived.Test.YtieoejilppgebaaNdItT
namespace Go.Proofs.Ytieoejilppgebaa.It
open Go Go.RowKit Go.Maps
set_option maxRecDepth 100000

def KeysPost (G : List ByteArray) (w : World) (e : Ending) (w' : World) : Prop :=
  ∃ a c, e = .returned (.slice a G.length c) ∧ Own w' w.heap.size 9 1 cS (.slice a G.length c) G ∧ Keep NoB w w'

set_option maxRecDepth 100000 in
set_option maxHeartbeats 8000000 in
theorem keys_any (cb mb : Nat) (room kept : Int) (N : List TH) (w : World) (T : Lru w cb mb room kept N) (hlen : N.length ≤ 100000) (G : List ByteArray) (hG : N.map (·.k) = G) :
    Calls Try.prog 38 #[.pointer (some ⟨cb, 0, none⟩)] w (KeysPost G w) := by
  have HG := Lib.hid hG
  have HT := Lib.hid T
  have c0 := blk_cell T.ring.blk 0
  have cl := blk_lt T.ring.blk
  simp at c0
  obtain ⟨v0, hv0⟩ : ∃ v, ptr (hd none N) = v := ⟨_, rfl⟩
  rw [hv0] at c0
  have HV0 := Lib.hid hv0
  clear hG T hv0
  go_enter Try.func38, Try.ntmps38
  go_wp2_with fail
  go_loopw [3, 4] (fun o t wr => ∃ (P R : List TH) (a : Option Addr) (c : Nat) (U : List ByteArray), N = P ++ R ∧ t = ptr (hd none R) ∧ P.map (·.k) = U ∧ o = .slice a U.length c ∧ Own wr w.heap.size 9 1 cS (.slice a U.length c) U ∧ Keep NoB w wr) (fun o _ _ => N.length - lenOf o)
  case atStart => exact ⟨[], N, none, 0, [], rfl, HV0.out.symm, rfl, rfl, ⟨by simp, Or.inl ⟨rfl, rfl⟩⟩, Keep.refl _ _⟩
  case round =>
    obtain ⟨P, R, a, c, U, hN, rfl, hU, rfl, O, hk⟩ := hrel
    have hUl : U.length = P.length := by rw [← hU]; simp
    have HN := Lib.hid hN
    have HU := Lib.hid hU
    clear hN hU
    cases R with
    | nil =>
      simp only [hd_nil, ptr_none]
      clear hUl
      go_wp2_with fail
      go_ret
      obtain rfl : U = G := by rw [← HG.out, ← HU.out, HN.out, List.append_nil]
      exact ⟨a, c, rfl, O, hk⟩
    | cons y R =>
      simp only [hd_cons, ptr_some]
      have hNl : N.length = P.length + (R.length + 1) := by rw [HN.out]; simp
      have hT := HT.out.keep0 hk
      have hS := hT.ring.seg
      have ym : y ∈ N := by rw [HN.out]; simp
      rw [HN.out] at hS
      have hb := (seg_append.1 hS).2.1
      have y0 := blk_cell hb 0
      have y4 := blk_cell hb 8
      have yl := blk_lt hb
      simp at y0 y4
      obtain ⟨v1, hv1⟩ : ∃ v, ptr (hd none R) = v := ⟨_, rfl⟩
      rw [hv1] at y4
      have HV1 := Lib.hid hv1
      obtain ⟨U', hU'⟩ : ∃ l, U ++ [y.k] = l := ⟨_, rfl⟩
      have HU' := Lib.hid hU'
      have hU2 : U.length ≤ 100000 := by omega
      have hU3 : U'.length = U.length + 1 := by rw [← hU']; simp
      have HU3 := Lib.hid hU3
      have hU4 : U.length < N.length := by omega
      have sk := hk.size
      have Hb := Lib.hid hb
      clear hUl hNl hT hS hv1 hU' hU3 hb
      go_wp2_with (first
        | (at_builtin
           refine wpList_append_one rfl (.tmp 18) (.tmp 23) 22 rfl Try.underlying22 info9' (by kernel_rfl) (by decide) (by decide) rfl (O.alloc _) cS_len y.k rfl (c := #[.string y.k]) (t' := 9) (f := (0, 0)) (by have := blk_new wr (.cells #[.string y.k] 9); simpa using this) rfl (cS_one _) (by omega) (by simp; omega) HU'.out ?_
           intro a4 c4 w4 O4 k4
           have K4 : Keep NoB w w4 := (hk.alloc (.cells #[.string y.k] 9)).trans' k4 (fun i hi e => by have := O.fresh i e; omega)
           have hno : ¬ (fun g => (Value.slice a U.length c).ownBlock = some g) y.b := fun e => own_other (HT.out.keep0 hk) O (by decide) (by decide) y.b e (Or.inr (RS.mem ym))
           have z4 := k4.some (blk_cell (blk_alloc (o' := .cells #[.string y.k] 9) Hb.out) 8) hno
           have zl := blk_lt (blk_keep (blk_alloc (o' := .cells #[.string y.k] 9) Hb.out) k4 hno)
           simp only [List.getElem?_toArray, List.getElem?_cons_zero, List.getElem?_cons_succ, HV1.out] at z4
           clear k4 y0 y4 yl O hno hk))
      go_roundw
      case rel => exact ⟨P ++ [y], R, a4, c4, U', by rw [HN.out]; simp, HV1.out.symm, by rw [← HU'.out, ← HU.out]; simp, rfl, O4, K4⟩
      case measure => simp only [lenOf]; have := HU3.out; simp [lenOf]; omega

theorem map_size {w : World} {mb : Nat} {L : List (Lit × Nat)} (h : MapAt Try.prog 9 encB w mb L) : ∃ es c, w.heap[mb]? = some (.map es c) ∧ es.size = L.length := by
  obtain ⟨es, clock, hb, _, _, hD⟩ := h
  refine ⟨es, clock, hb, ?_⟩
  have : Maps.size (toD encB L) = es.size := by rw [hD]; simp [Maps.size, length_sorted]
  rw [size_toD] at this
  exact this.symm
/-- How many keys the map in block mb has. -/
def mapLen (w : World) (mb : Nat) : Nat :=
  match w.heap[mb]? with
  | some (.map es _) => es.size
  | _ => 0
theorem Leads.len {w : World} {mb : Nat} {N : List TH} (h : Leads w mb N) : mapLen w mb = N.length := by
  obtain ⟨L, h1, h2, _⟩ := h
  obtain ⟨es, c, h3, h4⟩ := map_size h1
  unfold mapLen
  rw [h3, ← h2, ← h4]

set_option maxRecDepth 100000 in
set_option maxHeartbeats 8000000 in
theorem clear_any (cb mb : Nat) (room kept : Int) (N : List TH) (w : World) (T : Lru w cb mb room kept N) :
    Calls Try.prog 34 #[.pointer (some ⟨cb, 0, none⟩)] w (LruPost cb mb room kept N [] (.tuple #[]) w) := by
  have HT := Lib.hid T
  clear T
  go_enter Try.func34, Try.ntmps34
  go_wp2_with fail
  go_loopw [4] (fun _ wr => ∃ M : List TH, (∀ x ∈ M, x ∈ N) ∧ Lru wr cb mb room kept M ∧ Keep (LS cb mb N) w wr) (fun _ wr => mapLen wr mb)
  case atStart => exact ⟨N, fun _ h => h, HT.out, Keep.refl _ _⟩
  case round =>
    obtain ⟨M, hM, T, hk⟩ := hrel
    have HM := Lib.hid hM
    clear hM
    have c1 := blk_cell T.ring.blk 1
    have cl := blk_lt T.ring.blk
    rcases nil_or_snoc M with rfl | ⟨A, x, rfl⟩
    · simp [ls, ptr_none] at c1
      have HTT := Lib.hid T
      clear T
      go_wp2_with fail
      go_end0
      exact ⟨rfl, HTT.out, hk⟩
    · simp [ls_snoc, ptr_some] at c1
      have xl := T.ring.lt x (by simp)
      have HTT := Lib.hid T
      clear T
      go_wp2_with fail
      refine (take_any cb mb room kept A [] x wr HTT.out).mono ?_
      rintro _ w5 ⟨rfl, T5, k5⟩
      rw [List.append_nil] at T5
      have h1 := T5.leads.len
      have h2 := HTT.out.leads.len
      have hm : mapLen w5 mb < mapLen wr mb := by rw [h1, h2]; simp
      have Hm := Lib.hid hm
      have HT5 := Lib.hid T5
      have HK5 := Lib.hid (hk.trans (k5.mono (LS_sub HM.out)))
      clear T5 k5 h1 h2 hm
      go_wp2_with fail
      go_roundw
      case rel => exact ⟨A, fun y hy => HM.out y (by simp [hy]), HT5.out, HK5.out⟩
      case measure => exact Hm.out

/-! ### the nil cache -/
end Go.Proofs.Ytieoejilppgebaa.It
