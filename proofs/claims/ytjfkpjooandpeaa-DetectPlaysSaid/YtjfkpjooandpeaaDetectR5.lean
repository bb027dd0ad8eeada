/- The reference's New. -/
import Derived.Test.YtjfkpjooandpeaaDetectR4
namespace Go.Proofs.Ytjfkpjooandpeaa
open Go Go.RowKit Go.Maps Go.Sort

theorem rins_mem {s : ByteArray} : ∀ {N : List RN} {x : RN}, x ∈ rins N s → x = (s, 0) ∨ x ∈ N
  | [], x, h => by simpa [rins] using h
  | y :: N, x, h => by
    unfold rins at h
    split at h
    · rcases List.mem_cons.1 h with rfl | h
      · exact Or.inr (by simp)
      · rcases rins_mem h with h | h
        · exact Or.inl h
        · exact Or.inr (List.mem_cons_of_mem _ h)
    · split at h
      · exact Or.inr h
      · rcases List.mem_cons.1 h with rfl | h
        · exact Or.inl rfl
        · exact Or.inr h
theorem rins_len (s : ByteArray) : ∀ N : List RN, (rins N s).length ≤ N.length + 1
  | [] => by simp [rins]
  | y :: N => by
    have := rins_len s N
    unfold rins
    split
    · simp; omega
    · split <;> simp
theorem rins_rise (s : ByteArray) : ∀ N : List RN, Rise N → Rise (rins N s)
  | [], _ => by simp [rins, Rise]
  | y :: N, h => by
    obtain ⟨h1, h2⟩ := List.pairwise_cons.1 h
    unfold rins
    split
    · rename_i hl
      refine List.pairwise_cons.2 ⟨fun x hx => ?_, rins_rise s N h2⟩
      rcases rins_mem hx with rfl | hx
      · exact hl
      · exact h1 x hx
    · rename_i hl
      split
      · exact h
      · rename_i he
        have hsy : bs s < bs y.1 := by
          by_cases hc : bs s < bs y.1
          · exact hc
          · exact absurd (bs_inj (List.le_antisymm (List.not_lt.1 hc) (List.not_lt.1 hl))) he
        refine List.pairwise_cons.2 ⟨fun x hx => ?_, h⟩
        rcases List.mem_cons.1 hx with rfl | hx
        · exact hsy
        · exact List.lt_trans hsy (h1 x hx)

theorem blk_new2 (w : World) (o1 o2 : Obj) : ((w.alloc o1).alloc o2).heap[w.heap.size + 1]? = some o2 := by
  have h := blk_new (w.alloc o1) o2
  have e : (w.alloc o1).heap.size = w.heap.size + 1 := by simp
  rw [e] at h
  exact h

theorem tx_nlt {x y : ByteArray} (h : ¬ bs x < bs y) : Op.bytesLess x.toList y.toList = false := by
  rw [ByteArray.toList_eq, ByteArray.toList_eq]
  cases e : Op.bytesLess x.data.toList y.data.toList with
  | true => exact absurd (of_less e) h
  | false => rfl

/-- What the reference's New keeps. -/
structure RN0 (w : World) (B rb : Nat) (p : Int) (N : List RN) (z : Nat → ByteArray) (i : Nat) : Prop where
  ex : ∃ a cap, RTab w B rb a cap p 0 0 N ∧ ((N = [] ∧ a = none ∧ cap = 0) ∨ ∃ g, a = some ⟨g, 0, none⟩)
  map : newL p z i = N.map (fN p)
  rise : Rise N
  zero : ∀ x ∈ N, x.2 = 0
  len : N.length ≤ i





set_option maxRecDepth 100000 in
set_option maxHeartbeats 4000000 in
theorem rnew_any (patience p : Int) (a0 : Option Addr) (len cap0 : Nat) (z : Nat → ByteArray) (w : World) (hI : IsStr w a0 len z) (hl : len ≤ 200) (hp : max patience 1 = p) :
    Calls Try.prog 12 #[.int .i64 patience, .slice a0 len cap0] w fun e w' => e = .returned (.pointer (some ⟨w.heap.size, 0, none⟩)) ∧ (∃ N, RN0 w' w.heap.size w.heap.size p N z len) ∧ Keep NoB w w' := by
  have HI := Lib.hid hI
  have hb0 := blk_new w (.cells #[.slice none 0 0, .int .i64 p, .int .i64 0, .int .i64 0] 40)
  have hT0 : RTab (w.alloc (.cells #[.slice none 0 0, .int .i64 p, .int .i64 0, .int .i64 0] 40)) w.heap.size w.heap.size none 0 p 0 0 [] := ⟨hb0, Own.nil _ _ _ _ _⟩
  have HT0 := Lib.hid hT0
  have hk0 : Keep NoB w (w.alloc (.cells #[.slice none 0 0, .int .i64 p, .int .i64 0, .int .i64 0] 40)) := (Keep.refl NoB w).alloc _
  have Hk0 := Lib.hid hk0
  obtain ⟨rb, hrb⟩ : ∃ rb, w.heap.size = rb := ⟨_, rfl⟩
  have Hrb := Lib.hid hrb
  clear hI hb0 hT0 hk0 hrb
  have hpc : (decide (patience < 1) = true ∧ p = 1) ∨ (decide (patience < 1) = false ∧ p = patience) := by
    by_cases h : patience < 1
    · exact Or.inl ⟨decide_eq_true h, by omega⟩
    · exact Or.inr ⟨decide_eq_false h, by omega⟩
  rcases hpc with ⟨hd0, hpe⟩ | ⟨hd0, hpe⟩
  all_goals
    subst hpe
    go_enter Try.func12, Try.ntmps12
    go_wp2_with fail
    clear hp hd0
    go_loopw [6] (fun iv wr => ∃ (i : Nat) (N : List RN), i ≤ len ∧ iv = .int .i64 i ∧ RN0 wr w.heap.size w.heap.size _ N z i ∧ Keep NoB w wr) (fun i _ => len - (intOf i).toNat)
    case atStart => exact ⟨0, [], Nat.zero_le _, rfl, ⟨⟨none, 0, HT0.out, Or.inl ⟨rfl, rfl, rfl⟩⟩, rfl, List.Pairwise.nil, (fun x hx => by cases hx), Nat.le_refl _⟩, Hk0.out⟩
    case round =>
      obtain ⟨i, N, hi, rfl, R, kr⟩ := hrel
      obtain ⟨⟨a, cap, T, hsh⟩, hmap, hrise, hzero, hlen⟩ := R
      have Hsh := Lib.hid hsh
      have Hmap := Lib.hid hmap
      have Hrise := Lib.hid hrise
      have Hzero := Lib.hid hzero
      clear hsh hmap hrise hzero
      by_cases hlt : i < len
      · obtain ⟨b, off, rfl, hb, hc⟩ := (HI.out.keep kr).cell hlt
        have hzs := HI.out.2.1 i hlt
        obtain ⟨s, hzi⟩ : ∃ s, z i = s := ⟨_, rfl⟩
        rw [hzi] at hc hzs
        have Hzi := Lib.hid hzi
        have HT := Lib.hid T
        clear hzi T
        go_wp2_with fail
        go_loopw [7] (fun kv wx => ∃ k : Nat, k ≤ rplace N s ∧ kv = .int .i64 k ∧ Keep NoB wr wx) (fun kv _ => rplace N s - (intOf kv).toNat)
        case atStart => exact ⟨0, Nat.zero_le _, rfl, Keep.refl _ _⟩
        case round =>
          obtain ⟨k, hk, rfl, kx⟩ := hrel
          have hrl := rplace_le s N
          have Tx := HT.out.keep0 kx
          have c1 := blk_cell Tx.blk 0
          have hlx := blk_lt Tx.blk
          have l01 := kx.some hc (fun h => h)
          have hbx := Nat.lt_of_lt_of_le hb kx.size
          have Ox := Tx.own
          clear Tx
          simp at c1
          by_cases hkl : k < rplace N s
          · have hkn : k < N.length := by omega
            obtain ⟨x, hx⟩ : ∃ x, N[k]? = some x := ⟨_, List.getElem?_eq_getElem hkn⟩
            have hxl := tx_lt (rplace_lt s N k x hx hkl)
            obtain ⟨g, cap', hvv, hg1, hg2, hcx⟩ := Ox.cells rnCells_len hx
            cases hvv
            have m0 := hcx 0 _ rfl
            simp only [Nat.add_zero] at m0
            obtain ⟨xs, xt⟩ := x
            simp only at hxl
            simp at m0
            clear hcx hx Ox
            go_wp2_with fail
            go_quiet (fail)
            go_wp2_with fail
            go_roundw
            case rel => exact ⟨k + 1, hkl, by go_num, kx.drewN _⟩
            case measure => simp [intOf]; omega
          · have hke : k = rplace N s := by omega
            by_cases hkn : k < N.length
            · obtain ⟨x, hx⟩ : ∃ x, N[k]? = some x := ⟨_, List.getElem?_eq_getElem hkn⟩
              have hxl := tx_nlt (rplace_at s N x (by rw [← hke]; exact hx))
              obtain ⟨g, cap', hvv, hg1, hg2, hcx⟩ := Ox.cells rnCells_len hx
              cases hvv
              have m0 := hcx 0 _ rfl
              simp only [Nat.add_zero] at m0
              have Hx := Lib.hid hx
              have Hke := Lib.hid hke
              obtain ⟨xs, xt⟩ := x
              simp only at hxl
              simp at m0
              clear hcx hx Ox hke
              by_cases hxs : xs = s
              · subst hxs
                have hst : rins N xs = N := rins_there xs N _ (by rw [← Hke.out]; exact Hx.out) rfl
                have Hst := Lib.hid hst
                have hq1 : (xs.toList == xs.toList) = true := by simp
                clear hst
                go_wp2_with fail
                go_quiet (fail)
                go_wp2_with fail
                go_quiet (fail)
                go_wp2_with fail
                go_roundw
                case rel =>
                  refine ⟨i + 1, N, hlt, by go_num, ⟨⟨_, cap, HT.out.keep0 (kx.trans ?_), Hsh.out⟩, ?_, Hrise.out, Hzero.out, by omega⟩, kr.trans (kx.trans ?_)⟩
                  · (repeat (with_reducible first | exact Keep.refl _ _ | assumption | refine Keep.alloc ?_ _ | refine Keep.drewN ?_ _ | refine Keep.drew ?_ | refine Keep.setCell ?_ (by first | (left; simp; done) | (left; simp; omega) | (right; simp [NoB, OneB, TwoB]; done)) _))
                  · show lput (newL _ z i) (kT (z i)) _ = _
                    rw [Hmap.out, Hzi.out, lput_ins _ xs N Hrise.out, Hst.out]
                  · (repeat (with_reducible first | exact Keep.refl _ _ | assumption | refine Keep.alloc ?_ _ | refine Keep.drewN ?_ _ | refine Keep.drew ?_ | refine Keep.setCell ?_ (by first | (left; simp; done) | (left; simp; omega) | (right; simp [NoB, OneB, TwoB]; done)) _))
                case measure => simp [intOf]; omega
              · have hq1 := tx_ne hxs
                have hnew : ∀ x, N[rplace N s]? = some x → x.1 ≠ s := by
                  rw [← Hke.out, Hx.out]
                  intro x hx
                  cases hx
                  exact hxs
                clear hxs
                go_wp2_with fail
                go_quiet (fail)
                go_wp2_with fail
                go_quiet (fail)
                generalize hW : World.drewN _ _ = wy
                have ky : Keep NoB wr wy := by rw [← hW]; (repeat (with_reducible first | exact Keep.refl _ _ | assumption | refine Keep.alloc ?_ _ | refine Keep.drewN ?_ _ | refine Keep.drew ?_ | refine Keep.setCell ?_ (by first | (left; simp; done) | (left; simp; omega) | (right; simp [NoB, OneB, TwoB]; done)) _))
                clear hW
                have Ky := kr.trans (kx.trans ky)
                have T := HT.out.keep0 (kx.trans ky)
                have O := T.own
                have c0 := blk_cell T.blk 0
                have hly := blk_lt T.blk
                have l02 := ky.some l01 (fun h => h)
                have hby := Nat.lt_of_lt_of_le hbx ky.size
                have Hblk := Lib.hid T.blk
                have hsy := Ky.size
                have hfin := rins_new s N hnew
                rw [← Hke.out] at hfin
                obtain ⟨M, hM⟩ : ∃ M, List.take k N = M := ⟨_, rfl⟩
                have hlenM : M.length = k := by rw [← hM, List.length_take]; omega
                obtain ⟨M2, hM2⟩ : ∃ M, List.drop k N = M := ⟨_, rfl⟩
                have hlen2 : M2.length = List.length N - k := by rw [← hM2]; simp
                obtain ⟨N1, hN1⟩ : ∃ l, M ++ [(s, 0)] = l := ⟨_, rfl⟩
                have hN1l : N1.length = k + 1 := by rw [← hN1, List.length_append, hlenM]; rfl
                obtain ⟨N2, hN2⟩ : ∃ l, N1 ++ M2 = l := ⟨_, rfl⟩
                have hN2l : N2.length = List.length N + 1 := by rw [← hN2, List.length_append]; omega
                rw [hM, hM2, hN1, hN2] at hfin
                have Hfin := Lib.hid hfin
                have HN1 := Lib.hid hN1
                have HN2 := Lib.hid hN2
                have HN2l := Lib.hid hN2l
                have HM := Lib.hid hM
                have HM2 := Lib.hid hM2
                have HO := Lib.hid O
                clear hfin hN1 hN2 hN2l hM hM2 T c1 l01 hbx hnew ky
                simp at c0
                have src0 : ∀ j u, (M.flatMap rnCells)[j]? = some u → wy.cell? ((⟨g, 0, none⟩ : Addr).add j) = some u := by
                  intro j u hu
                  have := HO.out.from rnCells_len 0 j u
                  simp only [Nat.zero_mul, List.drop_zero] at this
                  apply this
                  rw [← HM.out] at hu
                  conv => lhs; rw [← List.take_append_drop k N, List.flatMap_append]
                  rw [List.getElem?_append_left (List.getElem?_eq_some_iff.1 hu).1]
                  exact hu
                have src2 : ∀ j u, (M2.flatMap rnCells)[j]? = some u → wy.cell? ((⟨g, k * 2, none⟩ : Addr).add j) = some u := by
                  intro j u hu
                  exact HO.out.from rnCells_len k j u (by rw [HM2.out]; exact hu)
                obtain ⟨-, hnc, hcm⟩ := HO.out.room
                unfold maxLen at hcm
                have Hsrc := Lib.hid src0
                have Hsrc2 := Lib.hid src2
                clear src0 src2
                by_cases hcap : cap = k
                all_goals try (exfalso; omega)
                all_goals
                  go_wp2_with (first
                    | (at_builtin
                       refine wpList_append_list rfl (.tmp 66) (.tmp 72) 38 rfl Try.underlying38 info58' (by kernel_rfl) (by decide) (by decide) rfl (Own.empty wy (Nat.le_refl _) 58 2 rnCells) rnCells_len rnCells_one M rfl hlenM.symm (fun j u hu => Keep.some ((Keep.refl NoB wy).alloc _) (Hsrc.out j u hu) (fun h => h)) (by simp; omega) (by simp) (List.nil_append M) ?_
                       intro a1 q1 w1 O1 k1
                       have k11 : Keep NoB wy w1 := ((Keep.refl NoB wy).alloc _).trans' k1 (fun k hk e => by have e2 : wy.heap.size = k := Option.some.inj e; omega)
                       have l03 := k11.some l02 (fun h => h)
                       have hb1 := Nat.lt_of_lt_of_le hby k11.size
                       have s1 := k11.size
                       rw [hlenM] at O1)
                    | (at_builtin
                       refine wpList_append_one rfl (.tmp 74) (.tmp 80) 38 rfl Try.underlying38 info58' (by kernel_rfl) (by decide) (by decide) rfl (O1.alloc _) rnCells_len (s, 0) rfl (c := #[.string s, .int .i64 0]) (t' := 58) (f := (0, 0)) (blk_new w1 _) rfl (rnCells_one _) (by omega) (by simp; omega) HN1.out ?_
                       intro a2 q2 w2 O2 k2
                       have hfr1 := Lib.hid O1.fresh
                       have k22 : Keep NoB wy w2 := (k11.alloc _).trans' k2 (fun i hi e => by have := hfr1.out i e; omega)
                       have b2 := blk_keep Hblk.out k22 (fun h => h)
                       have d0 := blk_cell b2 0
                       have d1 := blk_lt b2
                       have Hb2 := Lib.hid b2
                       have s2 := k22.size
                       clear b2
                       rw [hN1l] at O2
                       simp at d0)
                    | (at_builtin
                       refine wpList_append_list rfl (.tmp 83) (.tmp 89) 38 rfl Try.underlying38 info58' (by kernel_rfl) (by decide) (by decide) rfl O2 rnCells_len rnCells_one M2 rfl hlen2.symm (by intro j u hu; first | exact Keep.some k22 (Hsrc2.out j u hu) (fun h => h) | (have e0 : M2 = [] := List.eq_nil_of_length_eq_zero (by omega); rw [e0] at hu; simp at hu)) (by omega) (by omega) HN2.out ?_
                       intro a3 q3 w3 O3 k3
                       have hfr2 := Lib.hid O2.fresh
                       have k33 : Keep NoB wy w3 := k22.trans' k3 (fun i hi e => by have := hfr2.out i e; omega)
                       have b3 := blk_keep Hblk.out k33 (fun h => h)
                       have x0 := blk_cell b3 0
                       have x1 := blk_lt b3
                       have x2 := blk_free b3 0
                       have Hb3 := Lib.hid b3
                       clear b3
                       simp at x0))
                  have hb9 := blk_setCell (i := 0) Hb3.out (.slice a3 N2.length q3)
                  have k9 : Keep (OneB w.heap.size) w3 (w3.setCell ⟨w.heap.size, 0, none⟩ (.slice a3 N2.length q3)) := (Keep.refl (OneB w.heap.size) w3).setCell (p := ⟨w.heap.size, 0, none⟩) (Or.inr rfl) _
                  have O9 := (O3.mono hsy).keep k9 (fun g hg e => O3.ne Hb3.out (by decide) g hg e)
                  have K9 : Keep NoB w (w3.setCell ⟨w.heap.size, 0, none⟩ (.slice a3 N2.length q3)) := (Ky.trans k33).trans' k9 (fun i hi e => by have : i = w.heap.size := e; omega)
                  simp at hb9
                  go_roundw
                  case rel =>
                    refine ⟨i + 1, N2, hlt, by go_num, ⟨⟨a3, q3, ⟨hb9, O9⟩, Or.inr ?_⟩, ?_, ?_, ?_, ?_⟩, K9⟩
                    · obtain ⟨g3, e3, _, _⟩ := O3.some (by intro e; have := HN2l.out; rw [e] at this; simp at this)
                      exact ⟨g3, e3⟩
                    · show lput (newL _ z i) (kT (z i)) _ = _
                      rw [Hmap.out, Hzi.out, lput_ins _ s _ Hrise.out, Hfin.out]
                    · rw [← Hfin.out]; exact rins_rise s _ Hrise.out
                    · rw [← Hfin.out]
                      intro x hx
                      rcases rins_mem hx with rfl | hx
                      · rfl
                      · exact Hzero.out x hx
                    · have := HN2l.out; omega
                  case measure => simp [intOf]; omega
            · have hkd : decide ((k : Int) < (N.length : Int)) = false := decide_eq_false (by omega)
              have hnew : ∀ x, N[rplace N s]? = some x → x.1 ≠ s := by
                rw [← hke, List.getElem?_eq_none (by omega)]
                intro x hx
                cases hx
              have Hke := Lib.hid hke
              clear hke Ox
              rcases Hsh.out with ⟨rfl, rfl, rfl⟩ | ⟨g, rfl⟩
              · have hk0 : k = 0 := by rw [Hke.out]; rfl
                clear hk hkl hrl hkd hkn
                subst hk0
                go_wp2_with fail
                go_quiet (fail)
                go_wp2_with fail
                go_quiet (fail)
                generalize hW : World.drewN _ _ = wy
                have ky : Keep NoB wr wy := by rw [← hW]; (repeat (with_reducible first | exact Keep.refl _ _ | assumption | refine Keep.alloc ?_ _ | refine Keep.drewN ?_ _ | refine Keep.drew ?_ | refine Keep.setCell ?_ (by first | (left; simp; done) | (left; simp; omega) | (right; simp [NoB, OneB, TwoB]; done)) _))
                clear hW
                have Ky := kr.trans (kx.trans ky)
                have T := HT.out.keep0 (kx.trans ky)
                have O := T.own
                have c0 := blk_cell T.blk 0
                have hly := blk_lt T.blk
                have l02 := ky.some l01 (fun h => h)
                have hby := Nat.lt_of_lt_of_le hbx ky.size
                have Hblk := Lib.hid T.blk
                have hsy := Ky.size
                have hfin := rins_new s ([] : List RN) hnew
                rw [← Hke.out] at hfin
                obtain ⟨M, hM⟩ : ∃ M, List.take 0 ([] : List RN) = M := ⟨_, rfl⟩
                have hlenM : M.length = 0 := by rw [← hM, List.length_take]; omega
                obtain ⟨M2, hM2⟩ : ∃ M, List.drop 0 ([] : List RN) = M := ⟨_, rfl⟩
                have hlen2 : M2.length = List.length ([] : List RN) - 0 := by rw [← hM2]; simp
                obtain ⟨N1, hN1⟩ : ∃ l, M ++ [(s, 0)] = l := ⟨_, rfl⟩
                have hN1l : N1.length = 0 + 1 := by rw [← hN1, List.length_append, hlenM]; rfl
                obtain ⟨N2, hN2⟩ : ∃ l, N1 ++ M2 = l := ⟨_, rfl⟩
                have hN2l : N2.length = List.length ([] : List RN) + 1 := by rw [← hN2, List.length_append]; omega
                rw [hM, hM2, hN1, hN2] at hfin
                have Hfin := Lib.hid hfin
                have HN1 := Lib.hid hN1
                have HN2 := Lib.hid hN2
                have HN2l := Lib.hid hN2l
                have HM := Lib.hid hM
                have HM2 := Lib.hid hM2
                have HO := Lib.hid O
                clear hfin hN1 hN2 hN2l hM hM2 T c1 l01 hbx hnew ky
                simp at c0
                obtain ⟨i9, hi9, _, _, _⟩ := info_parts info58'
                have O1 := Own.empty wy (Nat.le_refl _) 58 2 rnCells
                have hap1 : ∀ ty, (Builtin.append_ #[38, 38] ty #[.slice (some ⟨wy.heap.size, 0, none⟩) 0 0, .slice none 0 0]).run Try.prog (wy.alloc (.cells #[] 58)) = .ok (.slice (some ⟨wy.heap.size, 0, none⟩) 0 0) (wy.alloc (.cells #[] 58)) := fun ty => run_append_owned_none _ wy.heap.size 38 ty 58 i9 2 Try.underlying38 hi9 _ 0 [] O1
                have hN12 : [] ++ [(s, 0)] = N2 := by
                  have e1 : M = [] := by rw [← HM.out]; simp
                  have e2 : M2 = [] := by rw [← HM2.out]; simp
                  have h1 := HN1.out
                  have h2 := HN2.out
                  rw [e1] at h1
                  rw [e2, List.append_nil] at h2
                  rw [← h2, ← h1]
                have HN12 := Lib.hid hN12
                clear hN12
                go_wp2_with (first
                  | (at_builtin
                     refine wpList_append_one rfl (.tmp 74) (.tmp 80) 38 rfl Try.underlying38 info58' (by kernel_rfl) (by decide) (by decide) rfl (O1.alloc _) rnCells_len (s, 0) rfl (c := #[.string s, .int .i64 0]) (t' := 58) (f := (0, 0)) (blk_new2 wy _ _) rfl (rnCells_one _) (by first | omega | (simp; done)) (by first | omega | (simp; done) | (simp; omega)) HN12.out ?_
                     intro a3 q3 w3 O3 k3
                     have hfr1 := Lib.hid O1.fresh
                     have k33 : Keep NoB wy w3 := (((Keep.refl NoB wy).alloc _).alloc _).trans' k3 (fun i hi e => by have := hfr1.out i e; omega)
                     have hne3 : N2 ≠ [] := by rw [← HN12.out]; simp
                     obtain ⟨g3, e3, _, _⟩ := O3.some hne3
                     subst e3
                     have hnc3 := O3.room.2.1
                     clear hne3
                     have hap3 := fun ty => run_append_owned_none (P := Try.prog) w3 wy.heap.size 38 ty 58 i9 2 Try.underlying38 hi9 _ N2.length _ O3
                     have b3 := blk_keep Hblk.out k33 (fun h => h)
                     have x0 := blk_cell b3 0
                     have x1 := blk_lt b3
                     have x2 := blk_free b3 0
                     have Hb3 := Lib.hid b3
                     clear b3
                     simp at x0))
                obtain ⟨a3, ha3⟩ : ∃ a3 : Option Addr, some (⟨g3, 0, none⟩ : Addr) = a3 := ⟨_, rfl⟩
                rw [ha3] at O3 ⊢
                have hb9 := blk_setCell (i := 0) Hb3.out (.slice a3 N2.length q3)
                have k9 : Keep (OneB w.heap.size) w3 (w3.setCell ⟨w.heap.size, 0, none⟩ (.slice a3 N2.length q3)) := (Keep.refl (OneB w.heap.size) w3).setCell (p := ⟨w.heap.size, 0, none⟩) (Or.inr rfl) _
                have O9 := (O3.mono hsy).keep k9 (fun g hg e => O3.ne Hb3.out (by decide) g hg e)
                have K9 : Keep NoB w (w3.setCell ⟨w.heap.size, 0, none⟩ (.slice a3 N2.length q3)) := (Ky.trans k33).trans' k9 (fun i hi e => by have : i = w.heap.size := e; omega)
                simp at hb9
                go_roundw
                case rel =>
                  refine ⟨i + 1, N2, hlt, by go_num, ⟨⟨a3, q3, ⟨hb9, O9⟩, Or.inr ?_⟩, ?_, ?_, ?_, ?_⟩, K9⟩
                  · obtain ⟨g3, e3, _, _⟩ := O3.some (by intro e; have := HN2l.out; rw [e] at this; simp at this)
                    exact ⟨g3, e3⟩
                  · show lput (newL _ z i) (kT (z i)) _ = _
                    rw [Hmap.out, Hzi.out, lput_ins _ s _ Hrise.out, Hfin.out]
                  · rw [← Hfin.out]; exact rins_rise s _ Hrise.out
                  · rw [← Hfin.out]
                    intro x hx
                    rcases rins_mem hx with rfl | hx
                    · rfl
                    · exact Hzero.out x hx
                  · have := HN2l.out; omega
                case measure => simp [intOf]; omega
              · go_wp2_with fail
                go_quiet (fail)
                go_wp2_with fail
                go_quiet (fail)
                generalize hW : World.drewN _ _ = wy
                have ky : Keep NoB wr wy := by rw [← hW]; (repeat (with_reducible first | exact Keep.refl _ _ | assumption | refine Keep.alloc ?_ _ | refine Keep.drewN ?_ _ | refine Keep.drew ?_ | refine Keep.setCell ?_ (by first | (left; simp; done) | (left; simp; omega) | (right; simp [NoB, OneB, TwoB]; done)) _))
                clear hW
                have Ky := kr.trans (kx.trans ky)
                have T := HT.out.keep0 (kx.trans ky)
                have O := T.own
                have c0 := blk_cell T.blk 0
                have hly := blk_lt T.blk
                have l02 := ky.some l01 (fun h => h)
                have hby := Nat.lt_of_lt_of_le hbx ky.size
                have Hblk := Lib.hid T.blk
                have hsy := Ky.size
                have hfin := rins_new s N hnew
                rw [← Hke.out] at hfin
                obtain ⟨M, hM⟩ : ∃ M, List.take k N = M := ⟨_, rfl⟩
                have hlenM : M.length = k := by rw [← hM, List.length_take]; omega
                obtain ⟨M2, hM2⟩ : ∃ M, List.drop k N = M := ⟨_, rfl⟩
                have hlen2 : M2.length = List.length N - k := by rw [← hM2]; simp
                obtain ⟨N1, hN1⟩ : ∃ l, M ++ [(s, 0)] = l := ⟨_, rfl⟩
                have hN1l : N1.length = k + 1 := by rw [← hN1, List.length_append, hlenM]; rfl
                obtain ⟨N2, hN2⟩ : ∃ l, N1 ++ M2 = l := ⟨_, rfl⟩
                have hN2l : N2.length = List.length N + 1 := by rw [← hN2, List.length_append]; omega
                rw [hM, hM2, hN1, hN2] at hfin
                have Hfin := Lib.hid hfin
                have HN1 := Lib.hid hN1
                have HN2 := Lib.hid hN2
                have HN2l := Lib.hid hN2l
                have HM := Lib.hid hM
                have HM2 := Lib.hid hM2
                have HO := Lib.hid O
                clear hfin hN1 hN2 hN2l hM hM2 T c1 l01 hbx hnew ky
                simp at c0
                have src0 : ∀ j u, (M.flatMap rnCells)[j]? = some u → wy.cell? ((⟨g, 0, none⟩ : Addr).add j) = some u := by
                  intro j u hu
                  have := HO.out.from rnCells_len 0 j u
                  simp only [Nat.zero_mul, List.drop_zero] at this
                  apply this
                  rw [← HM.out] at hu
                  conv => lhs; rw [← List.take_append_drop k N, List.flatMap_append]
                  rw [List.getElem?_append_left (List.getElem?_eq_some_iff.1 hu).1]
                  exact hu
                have src2 : ∀ j u, (M2.flatMap rnCells)[j]? = some u → wy.cell? ((⟨g, k * 2, none⟩ : Addr).add j) = some u := by
                  intro j u hu
                  exact HO.out.from rnCells_len k j u (by rw [HM2.out]; exact hu)
                obtain ⟨-, hnc, hcm⟩ := HO.out.room
                unfold maxLen at hcm
                have Hsrc := Lib.hid src0
                have Hsrc2 := Lib.hid src2
                clear src0 src2
                by_cases hcap : cap = k
                all_goals try (exfalso; omega)
                all_goals
                  go_wp2_with (first
                    | (at_builtin
                       refine wpList_append_list rfl (.tmp 66) (.tmp 72) 38 rfl Try.underlying38 info58' (by kernel_rfl) (by decide) (by decide) rfl (Own.empty wy (Nat.le_refl _) 58 2 rnCells) rnCells_len rnCells_one M rfl hlenM.symm (fun j u hu => Keep.some ((Keep.refl NoB wy).alloc _) (Hsrc.out j u hu) (fun h => h)) (by simp; omega) (by simp) (List.nil_append M) ?_
                       intro a1 q1 w1 O1 k1
                       have k11 : Keep NoB wy w1 := ((Keep.refl NoB wy).alloc _).trans' k1 (fun k hk e => by have e2 : wy.heap.size = k := Option.some.inj e; omega)
                       have l03 := k11.some l02 (fun h => h)
                       have hb1 := Nat.lt_of_lt_of_le hby k11.size
                       have s1 := k11.size
                       rw [hlenM] at O1)
                    | (at_builtin
                       refine wpList_append_one rfl (.tmp 74) (.tmp 80) 38 rfl Try.underlying38 info58' (by kernel_rfl) (by decide) (by decide) rfl (O1.alloc _) rnCells_len (s, 0) rfl (c := #[.string s, .int .i64 0]) (t' := 58) (f := (0, 0)) (blk_new w1 _) rfl (rnCells_one _) (by omega) (by simp; omega) HN1.out ?_
                       intro a2 q2 w2 O2 k2
                       have hfr1 := Lib.hid O1.fresh
                       have k22 : Keep NoB wy w2 := (k11.alloc _).trans' k2 (fun i hi e => by have := hfr1.out i e; omega)
                       have b2 := blk_keep Hblk.out k22 (fun h => h)
                       have d0 := blk_cell b2 0
                       have d1 := blk_lt b2
                       have Hb2 := Lib.hid b2
                       have s2 := k22.size
                       clear b2
                       rw [hN1l] at O2
                       simp at d0)
                    | (at_builtin
                       refine wpList_append_list rfl (.tmp 83) (.tmp 89) 38 rfl Try.underlying38 info58' (by kernel_rfl) (by decide) (by decide) rfl O2 rnCells_len rnCells_one M2 rfl hlen2.symm (by intro j u hu; first | exact Keep.some k22 (Hsrc2.out j u hu) (fun h => h) | (have e0 : M2 = [] := List.eq_nil_of_length_eq_zero (by omega); rw [e0] at hu; simp at hu)) (by omega) (by omega) HN2.out ?_
                       intro a3 q3 w3 O3 k3
                       have hfr2 := Lib.hid O2.fresh
                       have k33 : Keep NoB wy w3 := k22.trans' k3 (fun i hi e => by have := hfr2.out i e; omega)
                       have b3 := blk_keep Hblk.out k33 (fun h => h)
                       have x0 := blk_cell b3 0
                       have x1 := blk_lt b3
                       have x2 := blk_free b3 0
                       have Hb3 := Lib.hid b3
                       clear b3
                       simp at x0))
                  have hb9 := blk_setCell (i := 0) Hb3.out (.slice a3 N2.length q3)
                  have k9 : Keep (OneB w.heap.size) w3 (w3.setCell ⟨w.heap.size, 0, none⟩ (.slice a3 N2.length q3)) := (Keep.refl (OneB w.heap.size) w3).setCell (p := ⟨w.heap.size, 0, none⟩) (Or.inr rfl) _
                  have O9 := (O3.mono hsy).keep k9 (fun g hg e => O3.ne Hb3.out (by decide) g hg e)
                  have K9 : Keep NoB w (w3.setCell ⟨w.heap.size, 0, none⟩ (.slice a3 N2.length q3)) := (Ky.trans k33).trans' k9 (fun i hi e => by have : i = w.heap.size := e; omega)
                  simp at hb9
                  go_roundw
                  case rel =>
                    refine ⟨i + 1, N2, hlt, by go_num, ⟨⟨a3, q3, ⟨hb9, O9⟩, Or.inr ?_⟩, ?_, ?_, ?_, ?_⟩, K9⟩
                    · obtain ⟨g3, e3, _, _⟩ := O3.some (by intro e; have := HN2l.out; rw [e] at this; simp at this)
                      exact ⟨g3, e3⟩
                    · show lput (newL _ z i) (kT (z i)) _ = _
                      rw [Hmap.out, Hzi.out, lput_ins _ s _ Hrise.out, Hfin.out]
                    · rw [← Hfin.out]; exact rins_rise s _ Hrise.out
                    · rw [← Hfin.out]
                      intro x hx
                      rcases rins_mem hx with rfl | hx
                      · rfl
                      · exact Hzero.out x hx
                    · have := HN2l.out; omega
                  case measure => simp [intOf]; omega
      · have hd : decide ((i : Int) < (len : Int)) = false := decide_eq_false (by omega)
        have hil : i = len := by omega
        subst hil
        go_wp2
        go_ret
        exact ⟨rfl, ⟨N, ⟨⟨a, cap, T, Hsh.out⟩, Hmap.out, Hrise.out, Hzero.out, hlen⟩⟩, kr⟩
end Go.Proofs.Ytjfkpjooandpeaa
