/- way, Reserve, Put, Clear, Keys of package lru. -/
import Derived.Test.YtieoejilppgebaaNdItU
import Derived.Test.YtieoejilppgebaaLibSet
namespace Go.Proofs.Ytieoejilppgebaa.It
open Go Go.RowKit Go.Maps
set_option maxRecDepth 100000

theorem info9' : (Try.prog.info? 9).map (fun i => (i.zero, i.size, i.bytes)) = some (some (.string ⟨#[]⟩), 1, 16) := by kernel_rfl


theorem ls_snoc (A : List TH) (x : TH) (p : Option Nat) : ls p (A ++ [x]) = some x.b := by rw [ls_append]; rfl

/-- The keys of what goes: of the things from j on, the last one first. -/
def goneK (N : List TH) (j : Nat) : List ByteArray := (N.drop j).reverse.map (·.k)
theorem goneK_length (N : List TH) (j : Nat) : (goneK N j).length = N.length - j := by simp [goneK]
theorem goneK_snoc {N : List TH} {j : Nat} {x : TH} (h : N[j]? = some x) : goneK N (j + 1) ++ [x.k] = goneK N j := by
  obtain ⟨hj, rfl⟩ := List.getElem?_eq_some_iff.1 h
  unfold goneK
  rw [List.drop_eq_getElem_cons hj, List.reverse_cons, List.map_append]
  rfl
def lenOf : Value → Nat
  | .slice _ n _ => n
  | _ => 0

def WayPost (cb mb : Nat) (room kept : Int) (N N' : List TH) (gone : List ByteArray) (w : World) (e : Ending) (w' : World) : Prop :=
  ∃ a c, e = .returned (.slice a gone.length c) ∧ Own w' w.heap.size 9 1 cS (.slice a gone.length c) gone ∧ Lru w' cb mb room kept N' ∧ Keep (LS cb mb N) w w'

theorem take_snoc {N : List TH} {j : Nat} {x : TH} (h : N[j]? = some x) : N.take (j + 1) = N.take j ++ [x] := by
  rw [List.take_add_one, h]; rfl

theorem LS_sub {cb mb : Nat} {N M : List TH} (h : ∀ x ∈ M, x ∈ N) : ∀ i, LS cb mb M i → LS cb mb N i := by
  rintro i (e | e | ⟨y, hy, e⟩)
  · exact Or.inl e
  · exact Or.inr (Or.inl e)
  · exact Or.inr (Or.inr ⟨y, h y hy, e⟩)

/-- No row of texts is the cache's. -/
theorem own_other {w : World} {cb mb : Nat} {room kept : Int} {N : List TH} (T : Lru w cb mb room kept N) {α : Type} {B size : Nat} {e : TypeId} {enc : α → List Value} {v : Value} {M : List α} (h : Own w B e size enc v M) (h1 : e ≠ 103) (h2 : e ≠ 120) : ∀ g, v.ownBlock = some g → ¬ LS cb mb N g := by
  intro g hg
  rcases h.2 with ⟨rfl, _⟩ | ⟨g', cap, cur, rfl, _, hb, _⟩
  · simp [Value.ownBlock] at hg
  · simp [Value.ownBlock] at hg
    subst hg
    exact T.other hb h1 h2

set_option maxHeartbeats 2000000 in
theorem way_any (cb mb : Nat) (room kept : Int) (N : List TH) (n : Int) (w : World) (T : Lru w cb mb room kept N) (hn0 : 0 ≤ n) (hn1 : n ≤ room - kept) (hlen : N.length ≤ 100000) (N' : List TH) (gone : List ByteArray)
    (hN' : N.take (wayJ (room - n - kept) N N.length) = N') (hg : goneK N (wayJ (room - n - kept) N N.length) = gone) :
    Calls Try.prog 57 #[.pointer (some ⟨cb, 0, none⟩), .int .i64 n] w (WayPost cb mb room kept N N' gone w) := by
  have HN' := Lib.hid hN'
  have Hg := Lib.hid hg
  clear hN' hg
  have hkk := T.kept0
  have hff := T.fits
  have hrr := T.room1
  have hss := sumS_pos T.pos
  have HT0 := Lib.hid T
  clear T
  go_enter Try.func57, Try.ntmps57
  go_wp2_with fail
  go_loopw [5] (fun g wr => ∃ (j : Nat) (a : Option Addr) (c : Nat) (G : List ByteArray), j ≤ N.length ∧ g = .slice a G.length c ∧ goneK N j = G ∧ wayJ (room - n - kept) N N.length = wayJ (room - n - kept) N j ∧ Own wr w.heap.size 9 1 cS (.slice a G.length c) G ∧ Lru wr cb mb room kept (N.take j) ∧ Keep (LS cb mb N) w wr) (fun g _ => N.length - (lenOf g))
  case atStart =>
    refine ⟨N.length, none, 0, [], Nat.le_refl _, rfl, by simp [goneK], rfl, ⟨by simp, Or.inl ⟨rfl, rfl⟩⟩, ?_, Keep.refl _ _⟩
    rw [List.take_length]
    exact HT0.out
  case round =>
    obtain ⟨j, a, c, G, hj, rfl, hG, hwj, O, T, hk⟩ := hrel
    have hGl : G.length = N.length - j := by rw [← hG, goneK_length]
    have HG := Lib.hid hG
    have HW := Lib.hid hwj
    have sk := hk.size
    have ht := T
    cases j with
    | zero =>
      simp only [List.take_zero] at ht
      have c0 := blk_cell ht.ring.blk 0
      have c1 := blk_cell ht.ring.blk 1
      have c2 := blk_cell ht.ring.blk 2
      have c3 := blk_cell ht.ring.blk 3
      have c4 := blk_cell ht.ring.blk 4
      have c5 := blk_cell ht.ring.blk 5
      have f4 := blk_free ht.ring.blk 4
      have cl := blk_lt ht.ring.blk
      have hsum0 : 0 ≤ sumS ([] : List TH) := sumS_pos ht.pos
      have hk0 := ht.kept0
      have hf := ht.fits
      have hr := ht.room1
      have HT := Lib.hid ht
      clear ht
      simp [ptr_none, ptr_some, hd_nil, hd_cons, ls, ls_snoc] at c0 c1 c2 c3 c4 c5
      clear hG hwj hGl
      go_wp2_with fail
      go_quiet (fail)
      go_wp2_with fail
      go_ret
      obtain rfl : G = gone := by rw [← HG.out, ← Hg.out, HW.out]; rfl
      obtain rfl : [] = N' := by rw [← HN'.out, HW.out]; rfl
      exact ⟨a, c, rfl, O.keep ((Keep.refl NoB wr).drewN _) (fun _ _ h => h), HT.out.keep0 ((Keep.refl NoB wr).drewN _), hk.drewN _⟩
    | succ i =>
      obtain ⟨x, hx⟩ : ∃ x, N[i]? = some x := ⟨_, List.getElem?_eq_getElem (by omega)⟩
      rw [take_snoc hx] at ht
      have hs : ∃ s, sumS (N.take i ++ [x]) = s := ⟨_, rfl⟩
      obtain ⟨s, hs⟩ := hs
      have hxl := T.ring.lt x (by rw [take_snoc hx]; simp)
      obtain ⟨p', n', hbx⟩ := T.ring.seg.mem x (by rw [take_snoc hx]; simp)
      have x0 := blk_cell hbx 0
      simp at x0
      have c0 := blk_cell ht.ring.blk 0
      have c1 := blk_cell ht.ring.blk 1
      have c2 := blk_cell ht.ring.blk 2
      have c3 := blk_cell ht.ring.blk 3
      have c4 := blk_cell ht.ring.blk 4
      have c5 := blk_cell ht.ring.blk 5
      have f4 := blk_free ht.ring.blk 4
      have cl := blk_lt ht.ring.blk
      have hsum0 : 0 ≤ sumS (N.take i ++ [x]) := sumS_pos ht.pos
      have hk0 := ht.kept0
      have hf := ht.fits
      have hr := ht.room1
      have HT := Lib.hid ht
      clear ht
      simp [ptr_none, ptr_some, hd_nil, hd_cons, ls, ls_snoc] at c0 c1 c2 c3 c4 c5
      rw [hs] at c2 hf hsum0
      have HS := Lib.hid hs
      have HX := Lib.hid hx
      have hw1 : IntKind.i64.wrap (s + kept) = s + kept := IntWalk.i64_in _ (by omega)
      have hw2 : IntKind.i64.wrap (room - n) = room - n := IntWalk.i64_in _ (by omega)
      by_cases hgo : room - n - kept < s
      · have hd1 : decide (room - n < s + kept) = true := by simp; omega
        clear hG hwj hs hx hbx
        go_wp2_with fail
        go_quiet (fail)
        have hG2 : G.length ≤ 100000 := by omega
        obtain ⟨G', hG'⟩ : ∃ l, G ++ [x.k] = l := ⟨_, rfl⟩
        have HG' := Lib.hid hG'
        have hG'l : G'.length = G.length + 1 := by rw [← hG']; simp
        have HG'l := Lib.hid hG'l
        have kV : Keep NoB wr (World.drewN wr nq) := (Keep.refl NoB wr).drewN nq
        generalize World.drewN wr nq = V at kV ⊢
        have TV := HT.out.keep0 kV
        have OV := O.keep kV (fun _ _ h => h)
        have KV := hk.trans kV.none
        have sV := KV.size
        have HGO := Lib.hid hgo
        have HGL := Lib.hid hGl
        clear O T HT hk kV hG' hG'l hgo hd1 hw1 hw2 hGl
        have HTV := Lib.hid TV
        have v1 := blk_cell TV.ring.blk 1
        have vl := blk_lt TV.ring.blk
        obtain ⟨p2, n2, hbx2⟩ := TV.ring.seg.mem x (by simp)
        have y0 := blk_cell hbx2 0
        have yl := blk_lt hbx2
        simp [ls_snoc, ptr_some] at v1 y0
        clear TV hbx2 c0 c1 c2 c3 c4 c5 f4 cl x0 hxl sk
        go_wp2_with (first
          | (at_builtin
             refine wpList_append_one rfl (.tmp 31) (.tmp 40) 22 rfl Try.underlying22 info9' (by kernel_rfl) (by decide) (by decide) rfl (OV.alloc _) cS_len x.k rfl (c := #[.string x.k]) (t' := 9) (f := (0, 0)) (by have := blk_new V (.cells #[.string x.k] 9); simpa using this) rfl (cS_one _) (by omega) (by simp; omega) HG'.out ?_
             intro a4 c4 w4 O4 k4
             have T4 := (HTV.out.keep0 ((Keep.refl NoB V).alloc (.cells #[.string x.k] 9))).keep k4 (fun i hi e => by
               have := own_other (HTV.out.keep0 ((Keep.refl NoB V).alloc (.cells #[.string x.k] 9))) (OV.alloc (.cells #[.string x.k] 9)) (by decide) (by decide) i e
               exact this hi)
             have K4 : Keep (LS cb mb N) w w4 := (KV.alloc (.cells #[.string x.k] 9)).trans' k4 (fun i hi e => by have := OV.fresh i e; omega)
             have d1 := blk_cell T4.ring.blk 1
             have dl := blk_lt T4.ring.blk
             have xl4 := T4.ring.lt x (by simp)
             simp [ls_snoc, ptr_some] at d1
             have HT4 := Lib.hid T4
             have HO4 := Lib.hid O4
             clear T4 O4 k4 OV KV v1 vl y0 yl HTV))
        refine (take_any cb mb room kept (N.take i) [] x w4 HT4.out).mono ?_
        rintro _ w5 ⟨rfl, T5, k5⟩
        rw [List.append_nil] at T5
        have O5 := HO4.out.keep k5 (fun g hg e => own_other HT4.out HO4.out (by decide) (by decide) g hg e)
        have K5 : Keep (LS cb mb N) w w5 := K4.trans' k5 (fun j hj e => LS_sub (fun y hy => by
          simp only [List.mem_append, List.mem_singleton] at hy
          rcases hy with h | rfl
          · exact List.mem_of_mem_take h
          · exact List.mem_of_getElem? HX.out) j e)
        have hwf : wayJ (room - n - kept) N (i + 1) = wayJ (room - n - kept) N i := by
          have := HGO.out
          rw [wayJ, if_pos (by rw [take_snoc HX.out, HS.out]; exact this)]
        have hg' : goneK N i = G' := by rw [← HG'.out, ← HG.out, goneK_snoc HX.out]
        have hwf2 : wayJ (room - n - kept) N N.length = wayJ (room - n - kept) N i := HW.out.trans hwf
        have HF := Lib.hid hg'
        have HF2 := Lib.hid hwf2
        have HT5 := Lib.hid T5
        have hms : G'.length = G.length + 1 := HG'l.out
        have hms2 : G.length < N.length := by have := HGL.out; omega
        have Hms := Lib.hid hms
        clear hwf hg' hwf2 T5 k5 HT4 HO4 K4 hms d1 dl xl4
        go_wp2_with fail
        go_roundw
        case rel => exact ⟨i, a4, c4, G', by omega, rfl, HF.out, HF2.out, O5, HT5.out, K5⟩
        case measure => simp only [lenOf]; have := Hms.out; simp [lenOf]; omega
      · have hd1 : decide (room - n < s + kept) = false := by simp; omega
        clear hG hwj hs hx hbx hGl
        go_wp2_with fail
        go_quiet (fail)
        go_wp2_with fail
        go_ret
        have hwf : wayJ (room - n - kept) N (i + 1) = i + 1 := by unfold wayJ; rw [if_neg (by rw [take_snoc HX.out, HS.out]; omega)]
        obtain rfl : G = gone := by rw [← HG.out, ← Hg.out, HW.out, hwf]
        obtain rfl : N.take (i + 1) = N' := by rw [← HN'.out, HW.out, hwf]
        exact ⟨a, c, rfl, O.keep ((Keep.refl NoB wr).drewN _) (fun _ _ h => h), T.keep0 ((Keep.refl NoB wr).drewN _), hk.drewN _⟩

theorem reserve_no (cb mb : Nat) (room kept : Int) (N : List TH) (n : Int) (w : World) (T : Lru w cb mb room kept N) (h : n < 0 ∨ room - kept < n) :
    Calls Try.prog 30 #[.pointer (some ⟨cb, 0, none⟩), .int .i64 n] w fun e w' => e = .returned (.tuple #[.slice none 0 0, .bool false]) ∧ Keep NoB w w' := by
  have c0 := blk_cell T.ring.blk 0
  have c1 := blk_cell T.ring.blk 1
  have c2 := blk_cell T.ring.blk 2
  have c3 := blk_cell T.ring.blk 3
  have c4 := blk_cell T.ring.blk 4
  have c5 := blk_cell T.ring.blk 5
  have f4 := blk_free T.ring.blk 4
  have cl := blk_lt T.ring.blk
  have hsum0 : 0 ≤ sumS N := sumS_pos T.pos
  have hk0 := T.kept0
  have hf := T.fits
  have hr := T.room1
  have HT := Lib.hid T
  clear T
  simp [ptr_none, ptr_some, hd_nil, hd_cons, ls, ls_snoc] at c0 c1 c2 c3 c4 c5
  have hw2 : IntKind.i64.wrap (room - kept) = room - kept := IntWalk.i64_in _ (by omega)
  by_cases h0 : n < 0
  · have d1 : decide (n < 0) = true := by simpa using h0
    clear h h0
    go_enter Try.func30, Try.ntmps30
    go_wp2_with fail
    go_quiet (fail)
    go_wp2_with fail
    go_ret2
    exact ⟨rfl, (Keep.refl _ _).drewN _⟩
  · have d1 : decide (n < 0) = false := by simpa using h0
    have d2 : decide (room - kept < n) = true := by simp; omega
    clear h h0
    go_enter Try.func30, Try.ntmps30
    go_wp2_with fail
    go_quiet (fail)
    go_wp2_with fail
    go_ret2
    exact ⟨rfl, (Keep.refl _ _).drewN _⟩

def ResPost (cb mb : Nat) (room kept : Int) (N N' : List TH) (gone : List ByteArray) (w : World) (e : Ending) (w' : World) : Prop :=
  ∃ a c, e = .returned (.tuple #[.slice a gone.length c, .bool true]) ∧ Own w' w.heap.size 9 1 cS (.slice a gone.length c) gone ∧ Lru w' cb mb room kept N' ∧ Keep (LS cb mb N) w w'

theorem sumS_take {N : List TH} (h : ∀ x ∈ N, 0 ≤ x.s) (j : Nat) : sumS (N.take j) ≤ sumS N := by
  have e : sumS N = sumS (N.take j) + sumS (N.drop j) := by rw [← sumS_append, List.take_append_drop]
  have := sumS_pos (N := N.drop j) (fun x hx => h x (List.mem_of_mem_drop hx))
  omega

set_option maxRecDepth 100000 in
set_option maxHeartbeats 8000000 in
theorem reserve_ok (cb mb : Nat) (room kept : Int) (N : List TH) (n : Int) (w : World) (T : Lru w cb mb room kept N) (hn0 : 0 ≤ n) (hn1 : n ≤ room - kept) (hlen : N.length ≤ 100000) (N' : List TH) (gone : List ByteArray)
    (hN' : N.take (wayJ (room - n - kept) N N.length) = N') (hg : goneK N (wayJ (room - n - kept) N N.length) = gone) :
    Calls Try.prog 30 #[.pointer (some ⟨cb, 0, none⟩), .int .i64 n] w (ResPost cb mb room (kept + n) N N' gone w) := by
  have hfit : sumS N' ≤ room - n - kept := by rw [← hN']; exact wayJ_fit _ N (by omega) N.length
  have HN' := Lib.hid hN'
  have Hg := Lib.hid hg
  clear hN' hg
  have c0 := blk_cell T.ring.blk 0
  have c1 := blk_cell T.ring.blk 1
  have c2 := blk_cell T.ring.blk 2
  have c3 := blk_cell T.ring.blk 3
  have c4 := blk_cell T.ring.blk 4
  have c5 := blk_cell T.ring.blk 5
  have f4 := blk_free T.ring.blk 4
  have cl := blk_lt T.ring.blk
  have hsum0 : 0 ≤ sumS N := sumS_pos T.pos
  have hk0 := T.kept0
  have hf := T.fits
  have hr := T.room1
  have HT := Lib.hid T
  clear T
  simp [ptr_none, ptr_some, hd_nil, hd_cons, ls, ls_snoc] at c0 c1 c2 c3 c4 c5
  have hw2 : IntKind.i64.wrap (room - kept) = room - kept := IntWalk.i64_in _ (by omega)
  have d1 : decide (n < 0) = false := by simp; omega
  have d2 : decide (room - kept < n) = false := by simp; omega
  go_enter Try.func30, Try.ntmps30
  go_wp2_with fail
  go_quiet (fail)
  have kV : Keep NoB w (World.drewN w nq) := (Keep.refl NoB w).drewN nq
  generalize World.drewN w nq = V at kV ⊢
  have TV := HT.out.keep0 kV
  have sV := kV.size
  clear c0 c1 c2 c3 c4 c5 f4 cl hw2
  go_wp2_with fail
  refine (way_any cb mb room kept N n V TV hn0 hn1 hlen N' gone HN'.out Hg.out).mono ?_
  rintro _ w3 ⟨a, c, rfl, O3, T3, k3⟩
  have e4 := blk_cell T3.ring.blk 4
  have f4 := blk_free T3.ring.blk 4
  have el := blk_lt T3.ring.blk
  have HT3 := Lib.hid T3
  have HO3 := Lib.hid O3
  simp at e4
  clear T3 O3
  go_wp2_with fail
  go_ret2
  have K1 : Keep (OneB cb) w3 (w3.setCell ⟨cb, 4, none⟩ (.int .i64 (kept + n))) := (Keep.refl (OneB cb) w3).setCell (p := ⟨cb, 4, none⟩) (Or.inr rfl) _
  have hne : ∀ g, (Value.slice a gone.length c).ownBlock = some g → ¬ OneB cb g := fun g hg e => own_other HT3.out HO3.out (by decide) (by decide) g hg (Or.inr (Or.inl e))
  refine ⟨a, c, rfl, (HO3.out.keep K1 hne).mono sV, cache_set HT3.out (kept + n) (by omega) (by omega) (blk_kept HT3.out.ring.blk) K1, ?_⟩
  exact (kV.none.trans k3).trans (K1.mono (fun i h => Or.inr (Or.inl h)))


theorem put_no (cb mb : Nat) (room kept : Int) (N : List TH) (k : ByteArray) (s : Int) (v : IT) (w : World) (T : Lru w cb mb room kept N) (hks : k.size ≤ maxLen) (h : s < 0 ∨ room - kept < s) :
    Calls Try.prog 56 #[.pointer (some ⟨cb, 0, none⟩), .string k, .int .i64 s, .agg #[.int .i64 v.e, .int .i64 v.i, .bool v.th, .string v.tx, .int .i64 v.a]] w (LruPost cb mb room kept N (dropK N k) (.tuple #[.slice none 0 0, .bool false]) w) := by
  have hk0 := T.kept0
  have hf := T.fits
  have hr := T.room1
  have hs0 := sumS_pos T.pos
  have hw2 : IntKind.i64.wrap (room - kept) = room - kept := IntWalk.i64_in _ (by omega)
  have HT := Lib.hid T
  have cl := blk_lt T.ring.blk
  have HH := Lib.hid h
  clear T h
  go_enter Try.func56, Try.ntmps56
  go_wp2_with fail
  have k00 : Keep NoB w (w.alloc (.cells #[.int .i64 v.e, .int .i64 v.i, .bool v.th, .string v.tx, .int .i64 v.a] 77)) := (Keep.refl NoB w).alloc _
  have T00 := HT.out.keep0 k00
  refine (drop_any cb mb room kept N k _ T00 hks).mono ?_
  rintro _ w2 ⟨rfl, T2, k20⟩
  have bv2 := Lib.hid (blk_keep (blk_new w (.cells #[.int .i64 v.e, .int .i64 v.i, .bool v.th, .string v.tx, .int .i64 v.a] 77)) k20 (T00.other (blk_new w (.cells #[.int .i64 v.e, .int .i64 v.i, .bool v.th, .string v.tx, .int .i64 v.a] 77)) (by decide) (by decide)))
  have k2 := (k00.none (S := LS cb mb N)).trans k20
  obtain ⟨vb, hvb⟩ : ∃ q, w.heap.size = q := ⟨_, rfl⟩
  rw [hvb] at bv2 ⊢
  clear k20 T00 k00
  have T3 := Lib.hid T2
  have e3 := blk_cell T2.ring.blk 3
  have e4 := blk_cell T2.ring.blk 4
  have el := blk_lt T2.ring.blk
  simp at e3 e4
  have h := HH.out
  clear T2
  by_cases h0 : s < 0
  · have d1 : decide (s < 0) = true := by simpa using h0
    clear h h0
    go_wp2_with fail
    go_quiet (fail)
    go_wp2_with fail
    go_ret2
    exact ⟨rfl, T3.out.keep0 ((Keep.refl NoB _).drewN _), k2.drewN _⟩
  · have d1 : decide (s < 0) = false := by simpa using h0
    have d2 : decide (room - kept < s) = true := by simp; omega
    clear h h0
    go_wp2_with fail
    go_quiet (fail)
    go_wp2_with fail
    go_ret2
    exact ⟨rfl, T3.out.keep0 ((Keep.refl NoB _).drewN _), k2.drewN _⟩

theorem leads_put {w w' : World} {mb : Nat} {M : List TH} {x : TH} (L : List (Lit × Nat)) (hm : MapAt Try.prog 9 encB w mb L) (hl : L.length = M.length) (hg : ∀ k, lget L (kS k) = (fnd M k).map (·.b)) (hx : ∀ y ∈ M, y.k ≠ x.k)
    (hm' : MapAt Try.prog 9 encB w' mb (lput L (kS x.k) x.b)) : Leads w' mb (x :: M) := by
  refine ⟨_, hm', ?_, fun k => ?_⟩
  · rw [length_lput (hm.apart law9), hg, fnd_none_of hx, hl]
    rfl
  · by_cases e : k = x.k
    · subst e
      rw [lget_lput_same (kS_key _)]
      simp [fnd, List.find?_cons]
    · rw [lget_lput_other (fun e' => e (kS_inj e')), hg]
      have : decide (x.k = k) = false := by simpa using Ne.symm e
      simp [fnd, List.find?_cons, this]

def PutPost (cb mb : Nat) (room kept : Int) (N M : List TH) (k : ByteArray) (s : Int) (v : IT) (gone : List ByteArray) (w : World) (e : Ending) (w' : World) : Prop :=
  ∃ a c b, e = .returned (.tuple #[.slice a gone.length c, .bool true]) ∧ w.heap.size ≤ b ∧ Own w' w.heap.size 9 1 cS (.slice a gone.length c) gone ∧ Lru w' cb mb room kept (⟨b, k, v, s⟩ :: M) ∧ Keep (LS cb mb N) w w'

theorem dropK_mem {N : List TH} {k : ByteArray} {y : TH} (h : y ∈ dropK N k) : y ∈ N ∧ y.k ≠ k := by
  obtain ⟨h1, h2⟩ := List.mem_filter.1 h
  exact ⟨h1, by simpa using h2⟩

set_option maxHeartbeats 2000000 in
theorem put_ok (cb mb : Nat) (room kept : Int) (N : List TH) (k : ByteArray) (s : Int) (v : IT) (w : World) (T : Lru w cb mb room kept N) (hks : k.size ≤ maxLen) (hn0 : 0 ≤ s) (hn1 : s ≤ room - kept) (hlen : N.length ≤ 100000) (M : List TH) (gone : List ByteArray)
    (hM : (dropK N k).take (wayJ (room - s - kept) (dropK N k) (dropK N k).length) = M) (hg : goneK (dropK N k) (wayJ (room - s - kept) (dropK N k) (dropK N k).length) = gone) :
    Calls Try.prog 56 #[.pointer (some ⟨cb, 0, none⟩), .string k, .int .i64 s, .agg #[.int .i64 v.e, .int .i64 v.i, .bool v.th, .string v.tx, .int .i64 v.a]] w (PutPost cb mb room kept N M k s v gone w) := by
  have hkey := WideMaps.keyOf_string_mk Try.underlying9 hks
  have hdl : (dropK N k).length ≤ 100000 := Nat.le_trans (List.length_filter_le _ _) hlen
  have hfit : sumS M ≤ room - s - kept := by rw [← hM]; exact wayJ_fit _ _ (by omega) _
  have hMd : ∀ y ∈ M, y ∈ N ∧ y.k ≠ k := fun y hy => by rw [← hM] at hy; exact dropK_mem (List.mem_of_mem_take hy)
  have hMl : M.length ≤ 100000 := by rw [← hM, List.length_take]; omega
  have HM := Lib.hid hM
  have Hg := Lib.hid hg
  have HMd := Lib.hid hMd
  have hk0 := T.kept0
  have hf := T.fits
  have hr := T.room1
  have hs0 := sumS_pos T.pos
  have hw2 : IntKind.i64.wrap (room - kept) = room - kept := IntWalk.i64_in _ (by omega)
  have HT := Lib.hid T
  have cl := blk_lt T.ring.blk
  have d1 : decide (s < 0) = false := by simp; omega
  have d2 : decide (room - kept < s) = false := by simp; omega
  clear T hM hg hMd
  go_enter Try.func56, Try.ntmps56
  go_wp2_with fail
  have k00 : Keep NoB w (w.alloc (.cells #[.int .i64 v.e, .int .i64 v.i, .bool v.th, .string v.tx, .int .i64 v.a] 77)) := (Keep.refl NoB w).alloc _
  have T00 := HT.out.keep0 k00
  refine (drop_any cb mb room kept N k _ T00 hks).mono ?_
  rintro _ w2 ⟨rfl, T2, k20⟩
  have bv2 := Lib.hid (blk_keep (blk_new w (.cells #[.int .i64 v.e, .int .i64 v.i, .bool v.th, .string v.tx, .int .i64 v.a] 77)) k20 (T00.other (blk_new w (.cells #[.int .i64 v.e, .int .i64 v.i, .bool v.th, .string v.tx, .int .i64 v.a] 77)) (by decide) (by decide)))
  have k2 := (k00.none (S := LS cb mb N)).trans k20
  obtain ⟨vb, hvb⟩ : ∃ q, w.heap.size = q := ⟨_, rfl⟩
  rw [hvb] at bv2 ⊢
  clear k20 T00 k00
  have HT2 := Lib.hid T2
  have e3 := blk_cell T2.ring.blk 3
  have e4 := blk_cell T2.ring.blk 4
  have el := blk_lt T2.ring.blk
  simp at e3 e4
  clear T2
  go_wp2_with fail
  go_quiet (fail)
  have kV : Keep NoB w2 (World.drewN w2 nq) := (Keep.refl NoB w2).drewN nq
  generalize World.drewN w2 nq = V at kV ⊢
  have TV := HT2.out.keep0 kV
  have bvV := Lib.hid (blk_keep bv2.out kV (fun h => h))
  have KV : Keep (LS cb mb N) w V := k2.trans kV.none
  have sV := KV.size
  have HTV := Lib.hid TV
  clear e3 e4 el hw2 d1 d2 k2 kV TV
  go_wp2_with fail
  refine (way_any cb mb room kept (dropK N k) s V HTV.out hn0 hn1 hdl M gone HM.out Hg.out).mono ?_
  rintro _ w3 ⟨a, c, rfl, O3, T3, k3⟩
  have s3 := k3.size
  have bv3 := blk_keep bvV.out k3 (HTV.out.other bvV.out (by decide) (by decide))
  have v0 := blk_cell bv3 0
  have v1 := blk_cell bv3 1
  have v2 := blk_cell bv3 2
  have v3 := blk_cell bv3 3
  have v4 := blk_cell bv3 4
  have vl := blk_lt bv3
  simp at v0 v1 v2 v3 v4
  clear bv3 bvV bv2
  have K3 : Keep (LS cb mb N) w w3 := KV.trans (k3.mono (LS_sub (fun y hy => (dropK_mem hy).1)))
  have K4 := K3.alloc (.cells #[.string k, .int .i64 v.e, .int .i64 v.i, .bool v.th, .string v.tx, .int .i64 v.a, .int .i64 s, .pointer none, .pointer none] 120)
  have T4 := T3.keep0 ((Keep.refl NoB w3).alloc (.cells #[.string k, .int .i64 v.e, .int .i64 v.i, .bool v.th, .string v.tx, .int .i64 v.a, .int .i64 s, .pointer none, .pointer none] 120))
  have O4 := O3.alloc (.cells #[.string k, .int .i64 v.e, .int .i64 v.i, .bool v.th, .string v.tx, .int .i64 v.a, .int .i64 s, .pointer none, .pointer none] 120)
  have b4 := blk_new w3 (.cells #[.string k, .int .i64 v.e, .int .i64 v.i, .bool v.th, .string v.tx, .int .i64 v.a, .int .i64 s, .pointer none, .pointer none] 120)
  have hnx : ∀ y ∈ M, y.b ≠ w3.heap.size := fun y hy => Nat.ne_of_lt (T3.ring.lt y hy)
  have cl4 := blk_lt T4.ring.blk
  have hcx : cb ≠ w3.heap.size := Nat.ne_of_lt (blk_lt T3.ring.blk)
  have hb3 : w.heap.size ≤ w3.heap.size := by omega
  have hmx : mb ≠ w3.heap.size := by
    obtain ⟨es, cc, hh⟩ := T3.leads.map
    exact Nat.ne_of_lt (blk_lt hh)
  have HT4 := Lib.hid T4
  have HO4 := Lib.hid O4
  have Hb4 := Lib.hid b4
  have Hnx := Lib.hid hnx
  have l4 := blk_lt b4
  clear T3 O3 k3 T4 O4 b4 hnx HTV KV K3
  go_wp2_with fail
  refine (push_any cb mb (sumS M) room kept M ⟨w3.heap.size, k, v, s⟩ _ HT4.out.ring Hb4.out Hnx.out (sumS M + s) rfl (by have := sumS_pos HT4.out.pos; omega) (by omega)).mono ?_
  rintro _ w5 ⟨rfl, R5, k5⟩
  obtain ⟨L, hm, hl, hg⟩ := HT4.out.leads
  have hm5 := hm.keep k5 (by
    rintro (e | ⟨y, hy, e⟩)
    · exact HT4.out.cm e.symm
    · simp only [List.mem_cons] at hy
      rcases hy with rfl | hy
      · exact hmx e.symm
      · exact HT4.out.xm y hy e)
  have hLl : L.length < maxLen := by unfold maxLen; omega
  have r5 := blk_cell R5.blk 5
  have rl := blk_lt R5.blk
  have HR5 := Lib.hid R5
  have HL := Lib.hid hl
  have HG := Lib.hid hg
  have HMm := Lib.hid hm
  simp at r5
  clear R5 hl hg hm
  go_wp2_with (refine wpList_mstore _ rfl _ _ _ 101 rfl 9 98 law9 Try.underlying101 encB mb L rfl hm5 hLl _ _ w3.heap.size rfl rfl hkey ?_; intro w6 hm6 ht6)
  go_ret2
  have K6 : Keep (OneB mb) w5 w6 := Keep.of_turned ht6 rfl
  have hmem : ∀ y ∈ ((⟨w3.heap.size, k, v, s⟩ : TH) :: M), y.b ≠ mb := fun y hy => by
    simp only [List.mem_cons] at hy
    rcases hy with rfl | hy
    · exact hmx.symm
    · exact HT4.out.xm y hy
  have hLS : ∀ g, (Value.slice a gone.length c).ownBlock = some g → ¬ RS cb ((⟨w3.heap.size, k, v, s⟩ : TH) :: M) g := by
    intro g hg h
    rcases h with e | ⟨y, hy, e⟩
    · exact own_other HT4.out HO4.out (by decide) (by decide) g hg (Or.inr (Or.inl e))
    · simp only [List.mem_cons] at hy
      rcases hy with rfl | hy
      · exact HO4.out.ne Hb4.out (by decide) g hg e.symm
      · exact own_other HT4.out HO4.out (by decide) (by decide) g hg (Or.inr (Or.inr ⟨y, hy, e⟩))
  have hmo : ∀ g, (Value.slice a gone.length c).ownBlock = some g → ¬ OneB mb g := fun g hg e => own_other HT4.out HO4.out (by decide) (by decide) g hg (Or.inl e)
  refine ⟨a, c, w3.heap.size, rfl, by omega, ((HO4.out.keep k5 hLS).keep K6 hmo).mono sV, ?_, ?_⟩
  · refine ⟨?_, leads_put L HMm.out HL.out HG.out (x := ⟨w3.heap.size, k, v, s⟩) (fun y hy => (HMd.out y hy).2) hm6, ?_, ?_, ?_, hk0, ?_, hr⟩
    · have := HR5.out.keep K6 HT4.out.cm hmem
      rw [sumS_cons, Int.add_comm]
      exact this
    · rw [List.map_cons, List.nodup_cons]
      refine ⟨fun h => ?_, HT4.out.keys⟩
      obtain ⟨y, hy, e⟩ := List.mem_map.1 h
      exact (HMd.out y hy).2 e
    · intro y hy
      simp only [List.mem_cons] at hy
      rcases hy with rfl | hy
      · exact hn0
      · exact HT4.out.pos y hy
    · intro y hy
      simp only [List.mem_cons] at hy
      rcases hy with rfl | hy
      · exact hks
      · exact HT4.out.klen y hy
    · rw [sumS_cons]; show s + sumS M + kept ≤ room; omega
  · refine (K4.trans' k5 (fun i hi h => ?_)).trans' K6 (fun i hi h => Or.inl h)
    rcases h with e | ⟨y, hy, e⟩
    · exact Or.inr (Or.inl e)
    · simp only [List.mem_cons] at hy
      rcases hy with rfl | hy
      · simp only at e; omega
      · exact Or.inr (Or.inr ⟨y, (HMd.out y hy).1, e⟩)
end Go.Proofs.Ytieoejilppgebaa.It
