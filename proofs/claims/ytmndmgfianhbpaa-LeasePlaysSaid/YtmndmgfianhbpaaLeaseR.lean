/- What the reference's table of leases comes to. -/
import Derived.Test.YtmndmgfianhbpaaLeaseApartW
import Derived.Test.YtmndmgfianhbpaaLibOwn
namespace Go.Proofs.Ytmndmgfianhbpaa
open Go Go.RowKit Go.Maps

/-- A lease of the reference: its key, its token, its end. -/
abbrev RL := ByteArray × Int × Int
def rlCells (x : RL) : List Value := [.string x.1, .int .i64 x.2.1, .int .i64 x.2.2]
theorem rlCells_len (x : RL) : (rlCells x).length = 3 := rfl
theorem rlCells_one (x : RL) : ∀ u ∈ rlCells x, u.oneCell' = true := by
  intro u hu
  simp [rlCells] at hu
  rcases hu with rfl | rfl | rfl <;> rfl
theorem info66' : (Try.prog.info? 66).map (fun i => (i.zero, i.size, i.bytes)) = some (some (.agg #[.string ⟨#[]⟩, .int .i64 0, .int .i64 0]), 3, 32) := by kernel_rfl

/-- The reference's table: the struct in block rb, its list in a row of its own. -/
structure RTab (w : World) (B rb : Nat) (a : Option Addr) (cap : Nat) (limit ticks now last : Int) (N : List RL) : Prop where
  blk : w.heap[rb]? = some (.cells #[.slice a N.length cap, .int .i64 limit, .int .i64 ticks, .int .i64 now, .int .i64 last] 49 (0, 0))
  own : Own w B 66 3 rlCells (.slice a N.length cap) N

section
variable {w w' : World} {B rb : Nat} {a : Option Addr} {cap : Nat} {limit ticks now last : Int} {N : List RL}
theorem RTab.keep {S : Nat → Prop} (T : RTab w B rb a cap limit ticks now last N) (hk : Keep S w w') (h1 : ¬ S rb) (h2 : ∀ g, (Value.slice a N.length cap).ownBlock = some g → ¬ S g) : RTab w' B rb a cap limit ticks now last N :=
  ⟨blk_keep T.blk hk h1, T.own.keep hk h2⟩
theorem RTab.ne (T : RTab w B rb a cap limit ticks now last N) : ∀ g, (Value.slice a N.length cap).ownBlock = some g → g ≠ rb := T.own.ne T.blk (by decide)
end


/-- Where a key's lease is. -/
def rfind : List RL → ByteArray → Nat → Int
  | [], _, _ => -1
  | x :: N, s, i => if x.1 = s then (i : Int) else rfind N s (i + 1)

theorem find_any (rb B : Nat) (a : Option Addr) (cap : Nat) (limit ticks now last : Int) (N : List RL) (s : ByteArray) (w : World) (T : RTab w B rb a cap limit ticks now last N) (hN : N.length ≤ 1000) (v : Int) (hv : rfind N s 0 = v) :
    Calls Try.prog 26 #[.pointer (some ⟨rb, 0, none⟩), .string s] w fun e w' => e = .returned (.int .i64 v) ∧ w' = w := by
  have c0 := blk_cell T.blk 0
  have c1 := blk_cell T.blk 1
  have c2 := blk_cell T.blk 2
  have c3 := blk_cell T.blk 3
  have c4 := blk_cell T.blk 4
  have hlt := blk_lt T.blk
  have O := T.own
  have hne := T.ne
  have Hblk := Lib.hid T.blk
  clear T
  simp at c0 c1 c2 c3 c4
  have Hv := Lib.hid hv
  clear hv
  go_enter Try.func26, Try.ntmps26
  go_wp2_with fail
  go_loopw [5] (fun i wr => ∃ k : Nat, k ≤ N.length ∧ i = .int .i64 k ∧ wr = w ∧ rfind (N.drop k) s k = v) (fun i _ => N.length - (intOf i).toNat)
  case atStart => exact ⟨0, Nat.zero_le _, rfl, rfl, by simpa using Hv.out⟩
  case round =>
    obtain ⟨k, hk, rfl, rfl, hf⟩ := hrel
    have Hf := Lib.hid hf
    clear hf
    by_cases hlt2 : k < N.length
    · obtain ⟨x, hx⟩ : ∃ x, N[k]? = some x := ⟨_, List.getElem?_eq_getElem hlt2⟩
      obtain ⟨g, cap', hvv, hg1, hg2, hcx⟩ := O.cells rlCells_len hx
      cases hvv
      obtain ⟨xs, xt, xu⟩ := x
      have m0 := hcx 0 _ rfl
      simp only [Nat.add_zero] at m0
      have hd : N.drop k = (xs, xt, xu) :: N.drop (k + 1) := by rw [List.drop_eq_getElem_cons hlt2]; congr 1; rw [List.getElem?_eq_getElem hlt2] at hx; exact Option.some.inj hx
      have Hd := Lib.hid hd
      clear hcx hx hd
      by_cases hxs : xs = s
      · subst hxs
        have hvk : v = (k : Int) := by rw [← Hf.out, Hd.out]; simp [rfind]
        subst hvk
        go_wp2
        go_ret
        exact ⟨rfl, rfl⟩
      · have hsd := str_ne hxs
        have hnext : rfind (N.drop (k + 1)) s (k + 1) = v := by rw [← Hf.out, Hd.out]; simp [rfind, hxs]
        have Hn := Lib.hid hnext
        clear hnext
        go_wp2_with fail
        go_roundw
        case rel => exact ⟨k + 1, hlt2, by go_num, trivial, Hn.out⟩
        case measure => simp [intOf]; omega
    · have hvk : v = -1 := by rw [← Hf.out, List.drop_eq_nil_of_le (by omega)]; simp [rfind]
      subst hvk
      go_wp2
      go_ret
      exact ⟨rfl, rfl⟩

theorem drop_any (rb B : Nat) (a : Option Addr) (cap : Nat) (limit ticks now last : Int) (N : List RL) (i : Nat) (w : World) (T : RTab w B rb a cap limit ticks now last N) (hB : B ≤ w.heap.size) (hN : N.length ≤ 1000) (hi : i < N.length) :
    Calls Try.prog 27 #[.pointer (some ⟨rb, 0, none⟩), .int .i64 i] w fun e w' => e = .returned (.tuple #[]) ∧ (∃ a' cap', RTab w' B rb a' cap' limit ticks now last (N.take i ++ N.drop (i + 1))) ∧ Keep (OneB rb) w w' := by
  have c0 := blk_cell T.blk 0
  have c1 := blk_cell T.blk 1
  have c2 := blk_cell T.blk 2
  have c3 := blk_cell T.blk 3
  have c4 := blk_cell T.blk 4
  have hlt := blk_lt T.blk
  have O := T.own
  have hne := T.ne
  have Hblk := Lib.hid T.blk
  clear T
  simp at c0 c1 c2 c3 c4
  obtain ⟨-, hnc, hcm⟩ := O.room
  obtain ⟨g, rfl, hBg, hgl⟩ := O.some (by intro e; rw [e] at hi; simp at hi)
  unfold maxLen at hcm
  have hlen : (N.take i).length = i := by simp; omega
  obtain ⟨M, hM⟩ : ∃ M, N.take i = M := ⟨_, rfl⟩
  rw [hM] at hlen
  have HM := Lib.hid hM
  clear hM
  have src0 : ∀ j u, (M.flatMap rlCells)[j]? = some u → w.cell? ((⟨g, 0, none⟩ : Addr).add j) = some u := by
    intro j u hu
    have := O.from rlCells_len 0 j u
    simp only [Nat.zero_mul, List.drop_zero] at this
    apply this
    rw [← HM.out] at hu
    conv => lhs; rw [← List.take_append_drop i N, List.flatMap_append]
    rw [List.getElem?_append_left (List.getElem?_eq_some_iff.1 hu).1]
    exact hu
  have Hsrc := Lib.hid src0
  clear src0
  obtain ⟨M2, hM2⟩ : ∃ M, N.drop (i + 1) = M := ⟨_, rfl⟩
  have hlen2 : M2.length = N.length - (i + 1) := by rw [← hM2]; simp
  have src2 : ∀ j u, (M2.flatMap rlCells)[j]? = some u → w.cell? ((⟨g, (i + 1) * 3, none⟩ : Addr).add j) = some u := by
    intro j u hu
    exact O.from rlCells_len (i + 1) j u (by rw [hM2]; exact hu)
  have Hsrc2 := Lib.hid src2
  have HM2 := Lib.hid hM2
  clear src2 hM2
  obtain ⟨N', hN'⟩ : ∃ l, M ++ M2 = l := ⟨_, rfl⟩
  have hN'l : N'.length + 1 = N.length := by rw [← hN', List.length_append]; omega
  have HN' := Lib.hid hN'
  have hfin : N.take i ++ N.drop (i + 1) = N' := by rw [HM.out, HM2.out, hN']
  rw [hfin]
  clear hN' hfin
  by_cases hcap : cap = i + 1
  all_goals
    go_enter Try.func27, Try.ntmps27
    go_wp2_with (first
      | (at_builtin; refine wpList_append_list rfl (.tmp 5) (.tmp 11) 47 rfl Try.underlying47 info66' (by kernel_rfl) (by decide) (by decide) rfl (Own.empty w (Nat.le_refl _) 66 3 rlCells) rlCells_len rlCells_one M rfl hlen.symm (fun j u hu => Keep.some ((Keep.refl NoB w).alloc _) (Hsrc.out j u hu) (fun h => h)) (by simp; omega) (by simp) (List.nil_append M) ?_; intro a1 q1 w1 O1 k1
         have k11 : Keep NoB w w1 := ((Keep.refl NoB w).alloc _).trans' k1 (fun k hk e => by have e2 : w.heap.size = k := Option.some.inj e; omega)
         have b1 := blk_keep Hblk.out k11 (fun h => h)
         have d0 := blk_cell b1 0
         have d1 := blk_lt b1
         have Hb1 := Lib.hid b1
         have s1 := k11.size
         clear b1
         rw [hlen] at O1
         simp at d0)
      | (at_builtin; refine wpList_append_list rfl (.tmp 14) (.tmp 21) 47 rfl Try.underlying47 info66' (by kernel_rfl) (by decide) (by decide) rfl O1 rlCells_len rlCells_one M2 rfl hlen2.symm (by intro j u hu; first | exact Keep.some k11 (Hsrc2.out j u hu) (fun h => h) | (have e0 : M2 = [] := List.eq_nil_of_length_eq_zero (by omega); rw [e0] at hu; simp at hu)) (by omega) (by omega) HN'.out ?_; intro a2 q2 w2 O2 k2
         have b2 := blk_keep Hb1.out k2 (fun e => O1.ne Hb1.out (by decide) _ e rfl)
         have x0 := blk_cell b2 0
         have x1 := blk_lt b2
         have x2 := blk_free b2 0
         have Hb2 := Lib.hid b2
         clear b2
         simp at x0))
    go_end0
    refine ⟨rfl, ⟨a2, q2, ⟨?_, ?_⟩⟩, ?_⟩
    · have hb := blk_setCell (i := 0) Hb2.out (.slice a2 N'.length q2)
      simpa using hb
    · exact (O2.mono hB).keep (Keep.setCell (Keep.refl (OneB rb) w2) (p := ⟨rb, 0, none⟩) (Or.inr rfl) _) (fun g hg e => O2.ne Hb2.out (by decide) g hg e)
    · exact ((k11.none (S := OneB rb)).trans' k2 (fun k hk e => by have := O1.fresh k e; omega)).setCell (p := ⟨rb, 0, none⟩) (Or.inr rfl) _

def rhas (s : ByteArray) (x : RL) : Bool := decide (x.1 = s)
theorem rfind_cases (s : ByteArray) : ∀ (N : List RL) (j : Nat), (rfind N s j = -1 ∧ N.find? (rhas s) = none ∧ N.eraseP (rhas s) = N) ∨
    ∃ i x, i < N.length ∧ rfind N s j = ((j + i : Nat) : Int) ∧ N[i]? = some x ∧ N.find? (rhas s) = some x ∧ N.take i ++ N.drop (i + 1) = N.eraseP (rhas s)
  | [], j => by simp [rfind]
  | x :: N, j => by
    by_cases h : x.1 = s
    · right
      exact ⟨0, x, by simp, by simp [rfind, h], by simp, by simp [rhas, h], by simp [rhas, h]⟩
    · rcases rfind_cases s N (j + 1) with ⟨h1, h2, h3⟩ | ⟨i, y, h1, h2, h3, h4, h5⟩
      · left
        exact ⟨by simp [rfind, h, h1], by simp [List.find?, rhas, h]; simpa [rhas] using h2, by simp [List.eraseP, rhas, h]; simpa [rhas] using h3⟩
      · right
        refine ⟨i + 1, y, by simp; omega, by simp [rfind, h, h2]; omega, by simpa using h3, ?_, ?_⟩
        · simp [List.find?, rhas, h]; simpa [rhas] using h4
        · rw [List.eraseP_cons_of_neg (by simp [rhas, h])]
          simp [h5]

/-- What a call of the reference's leaves. -/
def RPost (rb B : Nat) (S : Nat → Prop) (limit ticks now last : Int) (N : List RL) (v : Value) (w : World) (e : Ending) (w' : World) : Prop :=
  e = .returned v ∧ (∃ a' cap', RTab w' B rb a' cap' limit ticks now last N) ∧ Keep S w w'

theorem rkill_any (rb B : Nat) (a : Option Addr) (cap : Nat) (limit ticks now last : Int) (N : List RL) (s : ByteArray) (w : World) (T : RTab w B rb a cap limit ticks now last N) (hB : B ≤ w.heap.size) (hN : N.length ≤ 1000) (v : Bool) (hv : (N.find? (rhas s)).isSome = v) :
    Calls Try.prog 21 #[.pointer (some ⟨rb, 0, none⟩), .string s] w (RPost rb B (OneB rb) limit ticks now last (N.eraseP (rhas s)) (.bool v) w) := by
  rcases rfind_cases s N 0 with ⟨h1, h2, h3⟩ | ⟨i, x, h1, h2, h3, h4, h5⟩
  · rw [h3]
    rw [h2] at hv
    subst hv
    go_enter Try.func21, Try.ntmps21
    go_wp2_with fail
    refine (find_any rb B a cap limit ticks now last N s _ T hN _ h1).mono ?_
    rintro _ _ ⟨rfl, rfl⟩
    go_wp2
    go_ret
    exact ⟨rfl, ⟨a, cap, T⟩, Keep.refl _ _⟩
  · rw [← h5]
    rw [h4] at hv
    subst hv
    simp only [Nat.zero_add] at h2
    have H3 := Lib.hid h3
    have H5 := Lib.hid h5
    clear h3 h4 h5
    go_enter Try.func21, Try.ntmps21
    go_wp2_with fail
    refine (find_any rb B a cap limit ticks now last N s _ T hN _ h2).mono ?_
    rintro _ _ ⟨rfl, rfl⟩
    go_wp2_with fail
    refine (drop_any rb B a cap limit ticks now last N i _ T hB hN h1).mono ?_
    rintro _ w' ⟨rfl, ⟨a', cap', T'⟩, hk'⟩
    go_wp2
    go_ret
    exact ⟨rfl, ⟨a', cap', T'⟩, hk'⟩

def ruseB (N : List RL) (s : ByteArray) (t : Int) : Bool := match N.find? (rhas s) with | some x => decide (x.2.1 = t) | none => false

theorem ruse_any (rb B : Nat) (a : Option Addr) (cap : Nat) (limit ticks now last : Int) (N : List RL) (s : ByteArray) (t : Int) (w : World) (T : RTab w B rb a cap limit ticks now last N) (hB : B ≤ w.heap.size) (hN : N.length ≤ 1000) (v : Bool) (hv : ruseB N s t = v) (N' : List RL) (hN' : (if v then N.eraseP (rhas s) else N) = N') :
    Calls Try.prog 20 #[.pointer (some ⟨rb, 0, none⟩), .string s, .int .i64 t] w (RPost rb B (OneB rb) limit ticks now last N' (.bool v) w) := by
  unfold ruseB at hv
  rcases rfind_cases s N 0 with ⟨h1, h2, h3⟩ | ⟨i, x, h1, h2, h3, h4, h5⟩
  · rw [h2] at hv
    simp only at hv
    subst hv
    simp only [Bool.false_eq_true, if_false] at hN'
    subst hN'
    go_enter Try.func20, Try.ntmps20
    go_wp2_with fail
    refine (find_any rb B a cap limit ticks now last N s _ T hN _ h1).mono ?_
    rintro _ _ ⟨rfl, rfl⟩
    go_wp2
    go_ret
    exact ⟨rfl, ⟨a, cap, T⟩, Keep.refl _ _⟩
  · rw [h4] at hv
    simp only at hv
    simp only [Nat.zero_add] at h2
    obtain ⟨xs, xt, xu⟩ := x
    simp only at hv
    have c0 := blk_cell T.blk 0
    obtain ⟨g, cap', hvv, hg1, hg2, hcx⟩ := T.own.cells rlCells_len h3
    cases hvv
    have m1 := hcx 1 _ rfl
    have hlt := blk_lt T.blk
    have HT := Lib.hid T
    have H5 := Lib.hid h5
    clear h3 h4 h5 hcx T
    simp at c0
    by_cases hxt : xt = t
    · subst hxt
      rw [decide_eq_true rfl] at hv
      subst hv
      simp only [if_true] at hN'
      rw [← H5.out] at hN'
      subst hN'
      go_enter Try.func20, Try.ntmps20
      go_wp2_with fail
      refine (find_any rb B _ cap limit ticks now last N s _ HT.out hN _ h2).mono ?_
      rintro _ _ ⟨rfl, rfl⟩
      go_wp2_with fail
      refine (drop_any rb B _ cap limit ticks now last N i _ HT.out hB hN h1).mono ?_
      rintro _ w' ⟨rfl, ⟨a', cap', T'⟩, hk'⟩
      go_wp2
      go_ret
      exact ⟨rfl, ⟨a', cap', T'⟩, hk'⟩
    · rw [decide_eq_false hxt] at hv
      subst hv
      simp only [Bool.false_eq_true, if_false] at hN'
      subst hN'
      have hd : (xt != t) = true := by simpa using hxt
      clear hxt
      go_enter Try.func20, Try.ntmps20
      go_wp2_with fail
      refine (find_any rb B _ cap limit ticks now last N s _ HT.out hN _ h2).mono ?_
      rintro _ _ ⟨rfl, rfl⟩
      go_wp2
      go_ret
      exact ⟨rfl, ⟨_, cap, HT.out⟩, Keep.refl _ _⟩
end Go.Proofs.Ytmndmgfianhbpaa
