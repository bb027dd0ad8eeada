/- What New of package ring comes to. -/
import Derived.Test.YtopgepifakdpfaaDoorRingV
import Derived.Test.YtopgepifakdpfaaDoorLibReg3
namespace Go.Proofs.YtopgepifakdpfaaDoor
open Go Go.RowKit Go.Maps Go.Sort
set_option maxRecDepth 100000

/-- A node's point. -/
def pt (n : BA) (j : Nat) : Int := hash (n ++ ⟨#[47]⟩ ++ ⟨(Lib.decDigits j).toArray⟩)
theorem pt_rng (n : BA) (j : Nat) : 0 ≤ pt n j ∧ pt n j < MM := hash_rng _
/-- A ring of the nodes L, whose blocks are numbers from B on: its points made or not. -/
def Rg (w : World) (B rb : Nat) (L : List BA) : Prop := B ≤ rb ∧ ∃ (na : Option Addr) (nc : Nat) (dn : Int) (sm : Int) (pa : Option Addr) (pc : Nat) (S : List PT),
  w.heap[rb]? = some (.cells #[.slice na L.length nc, .int .u32 dn, .int .i32 0, .int .u32 sm, .slice pa S.length pc] 54 (0, 0)) ∧ Own w B 9 1 cS (.slice na L.length nc) L ∧ Own w B 61 2 pCells (.slice pa S.length pc) S ∧
  ((dn = 0 ∧ S = [] ∧ pa = none ∧ pc = 0) ∨ (dn = 1 ∧ S.Perm (pts pt L) ∧ S.Pairwise (fun x y => ltP y x = false)))
theorem Rg.keep {w w' : World} {B rb : Nat} {L : List BA} {S : Nat → Prop} (h : Rg w B rb L) (hk : Keep S w w') (hS : ∀ q, B ≤ q → ¬ S q) : Rg w' B rb L := by
  obtain ⟨h0, na, nc, dn, sm, pa, pc, P, h1, h2, h3, h4⟩ := h
  exact ⟨h0, na, nc, dn, sm, pa, pc, P, blk_keep h1 hk (hS _ h0), h2.keep hk (fun g hg => hS g (h2.fresh g hg)), h3.keep hk (fun g hg => hS g (h3.fresh g hg)), h4⟩
theorem Rg.keep0 {w w' : World} {B rb : Nat} {L : List BA} (h : Rg w B rb L) (hk : Keep NoB w w') : Rg w' B rb L := h.keep hk (fun _ _ h => h)
theorem Rg.mono {w : World} {B B' rb : Nat} {L : List BA} (h : Rg w B rb L) (hB : B' ≤ B) : Rg w B' rb L := by
  obtain ⟨h0, na, nc, dn, sm, pa, pc, P, h1, h2, h3, h4⟩ := h
  exact ⟨Nat.le_trans hB h0, na, nc, dn, sm, pa, pc, P, h1, h2.mono hB, h3.mono hB, h4⟩

theorem sort_len {F : List BA} : ∃ M : List BA, F.Perm M ∧ M.Pairwise (fun x y => ¬ bs y < bs x) := by
  refine ⟨F.mergeSort (fun x y => !decide (bs y < bs x)), (List.mergeSort_perm _ _).symm, ?_⟩
  have := List.pairwise_mergeSort (le := fun x y : BA => !decide (bs y < bs x)) (fun a b c h1 h2 => by
    simp only [Bool.not_eq_true', decide_eq_false_iff_not] at *
    exact List.not_lt.2 (List.le_trans (List.not_lt.1 h1) (List.not_lt.1 h2))) (fun a b => by
    simp only [Bool.or_eq_true, Bool.not_eq_true', decide_eq_false_iff_not]
    by_cases h : bs b < bs a
    · exact Or.inr (bs_asym h)
    · exact Or.inl h) F
  exact this.imp (fun {a b} h => by simpa using h)
theorem nds_of (l : List BA) : ∃ L, Nds l L := by
  obtain ⟨M, h1, h2⟩ := sort_len (F := fe [] l)
  have hn : M.Nodup := h1.nodup_iff.1 (fe_nodup l [] List.nodup_nil)
  refine ⟨M, h1.symm, ?_⟩
  have h3 := (List.pairwise_and_iff.2 ⟨hn, h2⟩)
  exact h3.imp (fun {a b} h => (bs_total h.1).resolve_right h.2)

set_option maxHeartbeats 4000000 in
theorem new_any (w : World) (a : Option Addr) (c : Nat) (N : List BA) (h : RdS w a N) (hl : N.length ≤ 1000000) :
    Calls Tryd.prog 10 #[.slice a N.length c] w fun e w' => ∃ (rb : Nat) (L : List BA), e = .returned (.pointer (some ⟨rb, 0, none⟩)) ∧ Nds N L ∧ Rg w' w.heap.size rb L ∧ Keep NoB w w' := by
  have H := Lib.hid h
  clear h
  go_enter Tryd.func10, Tryd.ntmps10
  have b0 := blk_new w (.cells #[.slice none 0 0, .int .u32 0, .int .i32 0, .int .u32 0, .slice none 0 0] 54)
  have k0 := (Keep.refl NoB w).alloc (.cells #[.slice none 0 0, .int .u32 0, .int .i32 0, .int .u32 0, .slice none 0 0] 54)
  have Hb0 := Lib.hid b0
  have Hk0 := Lib.hid k0
  clear b0 k0
  go_wp2_with fail
  generalize World.alloc w (.cells #[.slice none 0 0, .int .u32 0, .int .i32 0, .int .u32 0, .slice none 0 0] 54) = w1 at Hb0 Hk0 ⊢
  obtain ⟨rb, hrb⟩ : ∃ q, w.heap.size = q := ⟨_, rfl⟩
  rw [hrb] at Hb0 ⊢
  have Hrb := Lib.hid hrb
  clear hrb
  go_loopw [10] (fun iv wr => ∃ (k : Nat) (F : List BA) (na : Option Addr) (nc : Nat), k ≤ N.length ∧ iv = .int .i64 (k : Int) ∧ fe [] (N.take k) = F ∧ wr.heap[rb]? = some (.cells #[.slice na F.length nc, .int .u32 0, .int .i32 0, .int .u32 0, .slice none 0 0] 54) ∧ Own wr w.heap.size 9 1 cS (.slice na F.length nc) F ∧ Keep NoB w wr) (fun iv _ => N.length - (intOf iv).toNat)
  case atStart => exact ⟨0, [], none, 0, Nat.zero_le _, rfl, by rw [List.take_zero, fe_nil], Hb0.out, Own.nil _ _ _ _ _, Hk0.out⟩
  case round =>
    clear Hb0 Hk0
    obtain ⟨k, F, na, nc, hk, rfl, hF, hb, O, hkp⟩ := hrel
    have HF := Lib.hid hF
    have Hb := Lib.hid hb
    have HO := Lib.hid O
    have Hk := Lib.hid hkp
    have c0 := blk_cell hb 0
    have cf := blk_free hb 0
    have cl := blk_lt hb
    simp at c0
    have hF8 : F.length ≤ 8 := by rw [← hF]; exact fe_len _ _ (by simp)
    clear hF hb O hkp
    by_cases hgo : k < N.length
    · obtain ⟨x, hx⟩ : ∃ x, N[k]? = some x := ⟨_, List.getElem?_eq_getElem hgo⟩
      obtain ⟨b, off, rfl, hbl, hc⟩ := (H.out.keep0 Hk.out).at hx
      have Hx := Lib.hid hx
      have d1 : decide ((k : Int) < (N.length : Int)) = true := decide_eq_true (by omega)
      have hw1 : IntKind.i64.wrap ((k : Int) + 1) = (k : Int) + 1 := IntWalk.i64_in _ (by omega)
      have hstep := fe_take hx
      rw [HF.out] at hstep
      have Hst := Lib.hid hstep
      clear hx hstep
      by_cases h8 : F.length < 8
      · have d2 : decide ((F.length : Int) < 8) = true := decide_eq_true (by omega)
        obtain ⟨bb, hbb⟩ : ∃ q, decide (x ∈ F) = q := ⟨_, rfl⟩
        have Hbb := Lib.hid hbb
        clear hbb
        go_wp2_with fail
        refine (contains_any wr na nc F x (rds_own HO.out) (by omega) bb Hbb.out).mono ?_
        rintro _ w2 ⟨rfl, rfl⟩
        cases bb
        · have hnx : ¬ x ∈ F := of_decide_eq_false Hbb.out
          have e1 := Hst.out
          rw [if_pos ⟨h8, hnx⟩] at e1
          obtain ⟨F', hF'⟩ : ∃ l, F ++ [x] = l := ⟨_, rfl⟩
          have HF' := Lib.hid hF'
          have hws : w.heap.size ≤ wr.heap.size := Hk.out.size
          rw [hF'] at e1
          have He1 := Lib.hid e1
          clear hF' e1 hnx
          go_wp2_with (at_builtin; refine wpList_append_one (B := w.heap.size) rfl (.tmp 33) (.tmp 35) 22 rfl Tryd.underlying22 info9' (by kernel_rfl) (by decide) (by decide) rfl (HO.out.alloc (.cells #[.string x] 9)) cS_len x rfl (c := #[.string x]) (t' := 9) (f := (0, 0)) (blk_new wr _) rfl (cS_one _) (by omega) (by simp; omega) HF'.out ?_; intro a4 c4 w4 O4 k4; have hne := (HO.out.alloc (.cells #[.string x] 9)).ne (blk_alloc (o' := .cells #[.string x] 9) Hb.out) (by decide); have b4 := blk_keep (blk_alloc (o' := .cells #[.string x] 9) Hb.out) k4 (fun e => hne rb e rfl); have z0 := blk_cell b4 0; have zf := blk_free b4 0; have zl := blk_lt b4; simp at z0; have Hb4 := Lib.hid b4; have HO4 := Lib.hid O4; have Hk4 := Lib.hid ((((Keep.refl NoB wr).alloc (.cells #[.string x] 9)).none).trans k4); clear O4 k4 b4 hne)
          have b5 := blk_setCell (i := 0) Hb4.out (.slice a4 F'.length c4)
          have K5 := (Keep.refl (OneB rb) w4).setCell (p := ⟨rb, 0, none⟩) (Or.inr rfl) (.slice a4 F'.length c4)
          simp at b5
          generalize World.setCell _ _ _ = w5 at b5 K5 ⊢
          have O5 := HO4.out.keep K5 (fun g hg e => HO4.out.ne Hb4.out (by decide) g hg e)
          have K6 : Keep NoB w w5 := (Hk.out.trans' Hk4.out (fun i hi e => by have := HO.out.fresh i e; omega)).trans' K5 (fun i hi e => by have e' : i = rb := e; have := Hrb.out; omega)
          have Hb5 := Lib.hid b5
          have HO5 := Lib.hid O5
          have HK6 := Lib.hid K6
          clear b5 K5 O5 K6
          go_wp2_with fail
          go_roundw
          case rel => exact ⟨k + 1, F', a4, c4, hgo, by go_num, He1.out, Hb5.out, HO5.out, HK6.out⟩
          case measure => simp [intOf]; omega
        · have hnx : x ∈ F := of_decide_eq_true Hbb.out
          have e1 := Hst.out
          rw [if_neg (fun h => h.2 hnx)] at e1
          have He1 := Lib.hid e1
          clear e1 hnx
          go_wp2_with fail
          go_roundw
          case rel => exact ⟨k + 1, F, na, nc, hgo, by go_num, He1.out, Hb.out, HO.out, Hk.out⟩
          case measure => simp [intOf]; omega
      · have d2 : decide ((F.length : Int) < 8) = false := decide_eq_false (by omega)
        have e1 := Hst.out
        rw [if_neg (fun h => h8 h.1)] at e1
        have He1 := Lib.hid e1
        clear e1
        go_wp2_with fail
        go_roundw
        case rel => exact ⟨k + 1, F, na, nc, hgo, by go_num, He1.out, Hb.out, HO.out, Hk.out⟩
        case measure => simp [intOf]; omega
    · have d1 : decide ((k : Int) < (N.length : Int)) = false := decide_eq_false (by omega)
      obtain ⟨L, hL⟩ := nds_of N
      have hFN : fe [] N = F := by have := HF.out; rw [List.take_of_length_le (by omega)] at this; exact this
      have HL := Lib.hid hL
      have hp : F.Perm L := by rw [← hFN]; exact hL.1.symm
      have Hp := Lib.hid hp
      clear hL hFN hp
      go_wp2_with fail
      refine (sortN_any wr w.heap.size na nc F L HO.out (by omega) Hp.out HL.out.2).mono ?_
      rintro _ w2 ⟨rfl, O2, k2⟩
      have hb2 := blk_keep Hb.out k2 (fun e => HO.out.ne Hb.out (by decide) rb e rfl)
      have hFL : F.length = L.length := Hp.out.length_eq
      rw [hFL] at hb2
      have Hb2 := Lib.hid hb2
      have HO2 := Lib.hid O2
      have HK2 := Lib.hid (HO.out.knob Hk.out k2)
      clear hb2 O2 k2 hFL
      go_wp2_with fail
      go_ret
      exact ⟨rb, L, rfl, HL.out, ⟨by have := Hrb.out; omega, na, nc, 0, 0, none, 0, [], Hb2.out, HO2.out, Own.nil _ _ _ _ _, Or.inl ⟨rfl, rfl, rfl, rfl⟩⟩, HK2.out⟩
end Go.Proofs.YtopgepifakdpfaaDoor
