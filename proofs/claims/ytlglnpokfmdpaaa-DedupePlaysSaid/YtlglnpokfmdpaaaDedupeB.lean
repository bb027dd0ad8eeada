/- What All of package dedupe comes to. -/
import Derived.Test.YtlglnpokfmdpaaaDedupeA
import Derived.Test.YtlglnpokfmdpaaaLibRange
import Derived.Test.YtlglnpokfmdpaaaLibSort
import Derived.Test.YtlglnpokfmdpaaaShelf
namespace Go.Proofs.Ytlglnpokfmdpaaa
open Go Go.RowKit Go.Maps Go.Sort

/-- A session, its request and where it was written. -/
abbrev SE := Int × Last
def encSeen (x : SE) : List Value := [.int .i64 x.1, .int .i64 x.2.1, .int .i64 x.2.2.1, .int .i64 x.2.2.2]
theorem encSeen_len (x : SE) : (encSeen x).length = 4 := rfl
theorem encSeen_one (x : SE) : ∀ u ∈ encSeen x, u.oneCell' = true := by
  intro u hu
  simp [encSeen] at hu
  rcases hu with rfl | rfl | rfl | rfl <;> rfl
theorem info41' : (Try.prog.info? 41).map (fun i => (i.zero, i.size, i.bytes)) = some (some (.agg #[.int .i64 0, .int .i64 0, .int .i64 0, .int .i64 0]), 4, 32) := by kernel_rfl

def litI : Lit → Int
  | .int _ n => n
  | _ => 0
/-- All sessions, rising. -/
def allOf (L : List (Lit × Last)) : List SE := L.map (fun p => (litI p.1, p.2))
def Keys3 (L : List (Lit × Last)) : Prop := ∀ p ∈ L, ∃ s, p.1 = kI s

theorem keyOf_int_inv {P : Program} {k : TypeId} {kk : IntKind} (hk : P.underlying k = some (.int kk)) {key : Value} {kl : Lit} (h : keyOf P k key = some kl) : ∃ n, key = .int kk n ∧ kl = .int kk n := by
  cases key <;> simp [keyOf, hk, mapKey] at h
  obtain ⟨⟨rfl, _⟩, rfl⟩ := h
  exact ⟨_, rfl, rfl⟩
theorem inv3 (key : Value) (kl : Lit) (h : keyOf Try.prog 3 key = some kl) : ∃ s, key = .int .i64 s := by
  obtain ⟨n, h1, _⟩ := keyOf_int_inv Try.underlying3 h
  exact ⟨n, h1⟩

theorem MapAt.key_of {α : Type} {P : Program} {k : TypeId} {enc : α → Value} {w : World} {b : Nat} {L : List (Lit × α)} (h : MapAt P k enc w b L) {p : Lit × α} (hp : p ∈ L) : ∃ key, keyOf P k key = some p.1 := by
  obtain ⟨es, clock, hb, F, hs, hD⟩ := h
  have hmL : (p.1, DataW.held (enc p.2)) ∈ (es.toList.map (Go.WideElems.rg P k tokR)).foldr DataW.insert [] := by
    simp only [toD, DataW.map.injEq] at hD
    rw [← hD]
    exact List.mem_map.2 ⟨p, hp, rfl⟩
  obtain ⟨e1, he1, e2⟩ := List.mem_map.1 (mem_sorted.1 hmL)
  obtain ⟨z, hz⟩ := F.reads e1 he1
  have e3 := Go.WideElems.rd_key hz
  rw [Go.WideElems.rg_of hz] at e2
  rw [e2] at e3
  exact ⟨_, e3⟩

theorem keys3wf {w : World} {mb : Nat} {L : List (Lit × Last)} (h : MapAt Try.prog 3 encLast w mb L) {s : Int} {x : Last} (hp : (kI s, x) ∈ L) : (Lit.int .i64 s).wf = true := by
  obtain ⟨key, hk⟩ := h.key_of hp
  cases key <;> simp [keyOf, Try.underlying3, mapKey, kI] at hk
  obtain ⟨⟨rfl, hw⟩, _, rfl⟩ := hk
  exact hw
theorem keys3 {w : World} {mb : Nat} {L : List (Lit × Last)} (h : MapAt Try.prog 3 encLast w mb L) : Keys3 L := by
  intro p hp
  obtain ⟨key, hk⟩ := h.key_of hp
  obtain ⟨n, _, e⟩ := keyOf_int_inv Try.underlying3 hk
  exact ⟨n, e⟩

/-- What a range has brought so far. -/
def SeenN (N : List SE) (L : List (Lit × Last)) (left : Lit → Bool) : Prop := N.Nodup ∧ ∀ p : SE, p ∈ N ↔ (kI p.1, p.2) ∈ L ∧ left (kI p.1) = false
theorem kI_key (s : Int) : WideAt.IsKeyLit (kI s) := trivial
theorem kI_inj {a b : Int} (h : kI a = kI b) : a = b := by simpa [kI] using h
theorem seenN_start (L : List (Lit × Last)) (ha : Apart L) : SeenN [] L (fun kl => (lget L kl).isSome) := by
  refine ⟨by simp, fun p => ⟨(fun h => by cases h), fun ⟨h1, h2⟩ => ?_⟩⟩
  have h2' : (lget L (kI p.1)).isSome = false := h2
  rw [lget_of_mem ha (kI_key _) h1] at h2'
  cases h2'
theorem seenN_step {N : List SE} {L : List (Lit × Last)} {left : Lit → Bool} (h : SeenN N L left) (ha : Apart L) {s : Int} {x : Last} (hl : left (kI s) = true) (hx : lget L (kI s) = some x) : SeenN (N ++ [(s, x)]) L (fun z => left z && !z.sameKey (kI s)) := by
  have hm := mem_of_lget hx
  refine ⟨?_, fun p => ?_⟩
  · rw [List.nodup_append]
    refine ⟨h.1, by simp, fun a ha' b hb e => ?_⟩
    simp only [List.mem_singleton] at hb
    subst hb
    subst e
    have := ((h.2 _).1 ha').2
    simp only at this
    rw [hl] at this
    cases this
  · rw [List.mem_append, h.2 p, List.mem_singleton]
    constructor
    · rintro (⟨h1, h2⟩ | rfl)
      · exact ⟨h1, by simp [h2]⟩
      · exact ⟨hm, by simp [WideAt.sameKey_self (kI_key _)]⟩
    · rintro ⟨h1, h2⟩
      cases hs : (kI p.1).sameKey (kI s) with
      | true =>
        right
        have e := kI_inj (WideAt.sameKey_eq hs)
        have h3 := lget_of_mem ha (kI_key _) h1
        rw [e, hx] at h3
        obtain ⟨p1, p2⟩ := p
        simp only at e h3
        rw [e, Option.some.inj h3]
      | false =>
        left
        have h2' : (left (kI p.1) && !(kI p.1).sameKey (kI s)) = false := h2
        rw [hs] at h2'
        exact ⟨h1, by simpa using h2'⟩
theorem allOf_mem {L : List (Lit × Last)} (hk : Keys3 L) (p : SE) : p ∈ allOf L ↔ (kI p.1, p.2) ∈ L := by
  unfold allOf
  rw [List.mem_map]
  constructor
  · rintro ⟨q, hq, rfl⟩
    obtain ⟨s, e⟩ := hk q hq
    obtain ⟨q1, q2⟩ := q
    simp only at e
    subst e
    exact hq
  · intro h
    exact ⟨_, h, rfl⟩
theorem allOf_rising {L : List (Lit × Last)} (hk : Keys3 L) (hr : L.Pairwise (fun p q => p.1.before q.1 = true)) : (allOf L).Pairwise (fun x y => x.1 < y.1) := by
  unfold allOf
  rw [List.pairwise_map]
  refine List.Pairwise.imp_of_mem (fun {p q} hp hq h => ?_) hr
  obtain ⟨s, e⟩ := hk p hp
  obtain ⟨s', e'⟩ := hk q hq
  rw [e, e'] at h ⊢
  simpa [kI, Lit.before, litI] using h
theorem seenN_end {N : List SE} {L : List (Lit × Last)} {left : Lit → Bool} (h : SeenN N L left) (hl : ∀ kl, left kl = false) (hk : Keys3 L) (hr : L.Pairwise (fun p q => p.1.before q.1 = true)) : N.Perm (allOf L) := by
  have h2 : (allOf L).Nodup := (allOf_rising hk hr).imp (fun {x y} h e => by rw [e] at h; omega)
  rw [List.perm_ext_iff_of_nodup h.1 h2]
  intro p
  rw [h.2 p, allOf_mem hk p]
  simp [hl]

/-! ### the comparison -/
def cmpI (a b : Int) : Int := if a < b then -1 else if b < a then 1 else 0
theorem cmp_any (a b : Int) (w : World) : Calls Try.prog 22 #[.int .i64 a, .int .i64 b] w fun e w' => e = .returned (.int .i64 (cmpI a b)) ∧ w = w' := by
  unfold cmpI
  by_cases h1 : a < b
  · rw [if_pos h1]
    have d1 : decide (a < b) = true := by simpa using h1
    go_enter Try.func22, Try.ntmps22
    go_wp2
    go_ret
    exact ⟨rfl, rfl⟩
  · have d1 : decide (a < b) = false := by simpa using h1
    rw [if_neg h1]
    by_cases h2 : b < a
    · rw [if_pos h2]
      have d2 : decide (b < a) = true := by simpa using h2
      go_enter Try.func22, Try.ntmps22
      go_wp2
      go_ret
      exact ⟨rfl, rfl⟩
    · rw [if_neg h2]
      have d2 : decide (b < a) = false := by simpa using h2
      go_enter Try.func22, Try.ntmps22
      go_wp2
      go_ret
      exact ⟨rfl, rfl⟩
def cfS (x y : SE) : Int := cmpI x.1 y.1
theorem lt_cfS (x y : SE) : Go.Proofs.ltOf cfS x y = decide (x.1 < y.1) := by
  unfold Go.Proofs.ltOf cfS cmpI
  by_cases h1 : x.1 < y.1
  · simp [h1]
  · by_cases h2 : y.1 < x.1 <;> simp [h1, h2]
theorem swoS : SWO (Go.Proofs.ltOf cfS) where
  irrefl x := by rw [lt_cfS]; simp
  trans x y z h1 h2 := by rw [lt_cfS] at *; simp at *; omega
  ntrans x y z h1 h2 := by rw [lt_cfS] at *; simp at *; omega
theorem closure_any (x y : SE) (W : World) : Calls Try.prog 21 #[.agg (encSeen x).toArray, .agg (encSeen y).toArray] W fun e w' => e = .returned (.int .i64 (cfS x y)) ∧ ∃ q os', w' = grow (W.drewN q) os' := by
  have hcon := fun W' => cmp_any x.1 y.1 W'
  unfold cfS
  generalize cmpI x.1 y.1 = r at hcon ⊢
  obtain ⟨x1, x2, x3, x4⟩ := x
  obtain ⟨y1, y2, y3, y4⟩ := y
  simp only [encSeen] at hcon ⊢
  go_enter Try.func21, Try.ntmps21
  go_wp2_with (go_at_call 22; refine (hcon _).mono ?_; rintro e w' ⟨rfl, rfl⟩)
  go_ret
  exact ⟨rfl, 0, _, by rw [alloc_eq_grow, alloc_eq_grow, grow_grow]; rfl⟩

def AllPost (M : List SE) (w : World) (e : Ending) (w' : World) : Prop :=
  ∃ a c, e = .returned (.slice a M.length c) ∧ Own w' w.heap.size 41 4 encSeen (.slice a M.length c) M ∧ Keep NoB w w'

/-- The sort, over a slice of the call's own. -/
theorem sort_any (w : World) (B : Nat) (a : Option Addr) (c : Nat) (N M : List SE) (O : Own w B 41 4 encSeen (.slice a N.length c) N) (hN : N.length ≤ 1000000) (hp : N.Perm M) (hr : M.Pairwise (fun x y => x.1 < y.1)) :
    Calls Try.prog 20 #[.slice a N.length c, .func (.func 21) #[] #[]] w fun e w' => e = .returned (.tuple #[]) ∧ Own w' B 41 4 encSeen (.slice a M.length c) M ∧ Keep (fun g => (Value.slice a N.length c).ownBlock = some g) w w' := by
  have hMl : N.length = M.length := hp.length_eq
  by_cases h0 : N = []
  · subst h0
    have hM : M = [] := by simpa using hp
    subst hM
    have hcon := AnyF.slices_SortFunc_none Try.sortSeen a c (.func (.func 21) #[] #[]) w
    change Calls Try.prog 20 _ _ _ at hcon
    refine hcon.mono ?_
    rintro _ _ ⟨rfl, rfl⟩
    exact ⟨rfl, O, Keep.refl _ _⟩
  · obtain ⟨g, rfl, hg1, hg2⟩ := O.some h0
    have eg : ∀ args w, (callFunc 21 args).run Try.prog w = .ok (.enter 21 args) w := Go.Proofs.enters_of Try.func21 (by kernel_rfl) rfl
    have hcon := AnyQ.slices_SortFunc Try.sortSeen 4 Try.isAgg41 Try.sizeOf41 encSeen encSeen_len (fun x v hv => encSeen_one x v hv) cfS swoS 21 #[] g 0 c N.toArray w eg (fun _ _ _ _ x y => closure_any x y _) (O.holdsK encSeen_len) hg2 (by simp; omega)
    change Calls Try.prog 20 _ _ _ at hcon
    refine hcon.mono ?_
    rintro _ _ ⟨rfl, d', n, os, hpp, hss, rfl⟩
    have hd : d'.size = N.length := by simpa using hpp.1
    obtain ⟨O', K'⟩ := O.sorted encSeen_len hd n os
    have e : d'.toList = M := sorted_eq (lt := Go.Proofs.ltOf cfS) hpp hss hp (hr.imp (fun {x y} h => by rw [lt_cfS]; simpa using h)) (fun x y h1 h2 => by rw [lt_cfS] at h1 h2; simp at h1 h2; omega)
    rw [e, hMl] at O'
    exact ⟨rfl, O', K'.mono (fun i h => by have : i = g := h; rw [this]; rfl)⟩


theorem blk_new2 (w : World) (o1 o2 : Obj) : ((w.alloc o1).alloc o2).heap[w.heap.size + 1]? = some o2 := by
  have h := blk_new (w.alloc o1) o2
  have e : (w.alloc o1).heap.size = w.heap.size + 1 := by simp
  rw [e] at h
  exact h

set_option maxHeartbeats 1000000 in
theorem all_any (tb mb : Nat) (limit : Int) (L : List (Lit × Last)) (w : World) (T : Tab w tb mb limit L) (hn : L.length ≤ 100000) (M : List SE) (hM : allOf L = M) :
    Calls Try.prog 14 #[.pointer (some ⟨tb, 0, none⟩)] w (AllPost M w) := by
  have hri := (T.map.rising law3).1
  have hap := T.map.apart law3
  have hk3 := keys3 T.map
  have Hri := Lib.hid hri
  have Hap := Lib.hid hap
  have Hk3 := Lib.hid hk3
  have HM := Lib.hid hM
  clear hri hap hk3 hM
  have c0 := blk_cell T.blk 0
  have c1 := blk_cell T.blk 1
  have hlt := blk_lt T.blk
  have hm := T.map
  clear T
  simp at c0 c1
  go_enter Try.func14, Try.ntmps14
  go_wp2_with (first
    | (at_range; refine wpList_mrange _ rfl _ 54 rfl 3 58 law3 Try.underlying54 encLast mb L rfl hm ?_; intro w0 hrg0 hk0 hs0))
  go_frame
  have Hg0 := Lib.hid hrg0
  have HS := Lib.hid (seenN_start L Hap.out)
  clear hrg0 hs0 c0 c1
  go_loopw [3] (fun o wr => ∃ (left : Lit → Bool) (cnt : Nat) (N : List SE) (a : Option Addr) (c : Nat), RangeAt Try.prog 3 encLast wr mb w.heap.size L left cnt ∧ o = .slice a N.length c ∧ Own wr (w.heap.size + 1) 41 4 encSeen (.slice a N.length c) N ∧ N.length + cnt ≤ L.length ∧ SeenN N L left ∧ Keep NoB w wr) (fun _ wr => wr.rangeLeft mb w.heap.size)
  case atStart => exact ⟨_, _, [], none, 0, Hg0.out, rfl, ⟨by simp, Or.inl ⟨rfl, rfl⟩⟩, by simp, HS.out, hk0⟩
  case round =>
    obtain ⟨left, cnt, N, a, c, hrg, rfl, O, hNc, hSN, hk⟩ := hrel
    have HSN := Lib.hid hSN
    clear hSN
    go_wp2_with (first
      | (at_next; refine wpList_mnext _ rfl _ rfl 3 law3 encLast (Value.int .i64) inv3 mb w.heap.size _ left cnt rfl hrg ?_ ?_))
    · intro _ hl0
      have hpm := seenN_end HSN.out hl0 Hk3.out Hri.out
      rw [HM.out] at hpm
      have hrM : M.Pairwise (fun x y => x.1 < y.1) := by rw [← HM.out]; exact allOf_rising Hk3.out Hri.out
      have Hpm := Lib.hid hpm
      have HrM := Lib.hid hrM
      clear hl0 hpm hrM
      go_wp2_with fail
      refine (sort_any _ _ a c N M O (by omega) Hpm.out HrM.out).mono ?_
      rintro _ w5 ⟨rfl, O5, k5⟩
      have hNM : N.length = M.length := Hpm.out.length_eq
      have HNM := Lib.hid hNM
      have K5 : Keep NoB w w5 := hk.trans' k5 (fun i hi e => by have := O.fresh i e; omega)
      clear hNM k5
      go_wp2_with fail
      go_ret
      exact ⟨a, c, by rw [HNM.out]; rfl, O5.mono (Nat.le_succ _), K5⟩
    · intro s x1 x2 x3 kl w1 cnt1 hkey hl hx hrg1 hlt1 hk1 hs1 hen
      obtain ⟨n, e1, e2⟩ := keyOf_int_inv Try.underlying3 hkey
      cases e1
      subst e2
      simp only [encLast] at hen ⊢
      have hSN' := seenN_step HSN.out Hap.out hl hx
      have HSN' := Lib.hid hSN'
      have K1 : Keep NoB w w1 := hk.trans' hk1 (fun j hj e => by have : j = w.heap.size := e; omega)
      have O1 := O.keep hk1 (fun g hg e => by have h1 := O.fresh g hg; have h2 : g = w.heap.size := e; omega)
      have hrl := hrg1.lt
      obtain ⟨N', hN'⟩ : ∃ l, N ++ [(s, (x1, x2, x3))] = l := ⟨_, rfl⟩
      have HN' := Lib.hid hN'
      have hN'l : N'.length = N.length + 1 := by rw [← hN']; simp
      have HN'l := Lib.hid hN'l
      have hlN : N.length ≤ 100000 := by omega
      have s1 := K1.size
      clear hN' hN'l hSN' hl hx hk1 hs1
      go_wp2_with (first
        | (at_builtin
           refine wpList_append_one rfl (.tmp 18) (.tmp 25) 38 rfl Try.underlying38 info41' (by kernel_rfl) (by decide) (by decide) rfl ((O1.alloc _).alloc _) encSeen_len (s, (x1, x2, x3)) rfl (c := #[.int .i64 s, .int .i64 x1, .int .i64 x2, .int .i64 x3]) (t' := 41) (f := (0, 0)) (blk_new2 w1 _ _) rfl (encSeen_one _) (by omega) (by simp; omega) HN'.out ?_
           intro a4 c4 w4 O4 k4
           have K2 : Keep NoB w1 ((w1.alloc (.cells #[.int .i64 x1, .int .i64 x2, .int .i64 x3] 58)).alloc (.cells #[.int .i64 s, .int .i64 x1, .int .i64 x2, .int .i64 x3] 41)) := ((Keep.refl NoB w1).alloc _).alloc _
           have hrg4 := (hrg1.keep K2 (fun h => h) (fun h => h)).keep k4 (fun e => O1.ne_map hrg1.map mb e rfl) (fun e => by have := O1.fresh _ e; omega)
           have K4 : Keep NoB w w4 := (K1.trans K2).trans' k4 (fun i hi e => by have := O1.fresh i e; omega)
           clear k4 K2))
      go_roundw
      case rel => exact ⟨_, cnt1, N', a4, c4, hrg4, rfl, O4, by have := HN'l.out; omega, by rw [← HN'.out]; exact HSN'.out, K4⟩
      case measure => rw [hrg4.left_eq, hrg.left_eq]; exact hlt1
end Go.Proofs.Ytlglnpokfmdpaaa
