/- What LruPlays carries: both caches side by side; the reference's contracts over the cache's own list. -/
import Derived.Test.YtgbcjnejlelndaaLruP9
namespace Go.Proofs.Ytgbcjnejlelndaa
open Go Go.RowKit Go.Maps

def t3 (x : TH) : T3 := (x.k, x.s, x.v)
def m3 (N : List TH) : List T3 := N.map t3
theorem m3_len (N : List TH) : (m3 N).length = N.length := by simp [m3]
theorem m3_take (N : List TH) (j : Nat) : (m3 N).take j = m3 (N.take j) := by simp [m3, List.map_take]
theorem sum3_m3 (N : List TH) : sum3 (m3 N) = sumS N := by simp only [sum3, m3, sumS, List.map_map]; rfl
theorem m3_keys (N : List TH) : (m3 N).map (·.1) = N.map (·.k) := by simp only [m3, List.map_map]; rfl
theorem goneR_m3 (N : List TH) (j : Nat) : goneR (m3 N) j = goneK N j := by
  unfold goneR goneK m3
  rw [← List.map_drop, ← List.map_reverse, List.map_map]
  rfl
theorem m3_pos {N : List TH} (h : ∀ x ∈ N, 0 ≤ x.s) : ∀ x ∈ m3 N, 0 ≤ x.2.1 := by
  intro x hx
  obtain ⟨y, hy, rfl⟩ := List.mem_map.1 hx
  exact h y hy
theorem m3_ne {N : List TH} {s : ByteArray} (h : ∀ y ∈ N, y.k ≠ s) : ∀ x ∈ m3 N, x.1 ≠ s := by
  intro x hx
  obtain ⟨y, hy, rfl⟩ := List.mem_map.1 hx
  exact h y hy
theorem m3_mid {A B : List TH} {x : TH} : (m3 (A ++ x :: B))[A.length]? = some (t3 x) := by simp [m3]
theorem m3_low {A B : List TH} {x : TH} {s : ByteArray} (h : ∀ y ∈ A, y.k ≠ s) : ∀ (i' : Nat) (y : T3), i' < A.length → (m3 (A ++ x :: B))[i']? = some y → y.1 ≠ s := by
  intro i' y hi hy
  have : (m3 (A ++ x :: B))[i']? = (m3 A)[i']? := by simp only [m3, List.map_append]; rw [List.getElem?_append_left (by simpa using hi)]
  rw [this] at hy
  exact m3_ne h y (List.mem_of_getElem? hy)
theorem m3_cut {A B : List TH} {x : TH} : (m3 (A ++ x :: B)).take A.length ++ (m3 (A ++ x :: B)).drop (A.length + 1) = m3 (A ++ B) := by
  have h1 : (m3 (A ++ x :: B)).take A.length = m3 A := by rw [m3_take]; simp
  have h2 : (m3 (A ++ x :: B)).drop (A.length + 1) = m3 B := by unfold m3; rw [← List.map_drop]; congr 1; simp [List.drop_append]
  rw [h1, h2]
  simp [m3]

/-- What holds of the list of a cache. -/
structure PF (room kept : Int) (N : List TH) : Prop where
  keys : (N.map (·.k)).Nodup
  pos : ∀ x ∈ N, 0 ≤ x.s
  kept0 : 0 ≤ kept
  fits : sumS N + kept ≤ room
  room1 : room ≤ 9223372036854775807
  len : N.length ≤ 100000
theorem PF.sum0 {room kept : Int} {N : List TH} (p : PF room kept N) : 0 ≤ sumS N := sumS_pos p.pos

theorem dropV_of {N : List TH} {s : ByteArray} (hk : (N.map (·.k)).Nodup) : DropV (m3 N) s (m3 (dropK N s)) (fnd N s).isSome := by
  cases hf : fnd N s with
  | none =>
    rw [dropK_none (fnd_none hf)]
    exact .miss (m3_ne (fnd_none hf))
  | some x =>
    obtain ⟨h1, A, B, rfl, hA⟩ := fnd_split hf
    subst h1
    have h2 := (dropK_split hk).1
    rw [h2, ← m3_cut (A := A) (B := B) (x := x)]
    exact .hit A.length (t3 x) m3_mid rfl (m3_low hA)

theorem wayJ_up (lim : Int) (N : List TH) : ∀ n j, wayJ lim N n < j → j ≤ n → lim < sumS (N.take j)
  | 0, j, h1, h2 => by omega
  | n + 1, j, h1, h2 => by
    unfold wayJ at h1
    split at h1
    · rename_i h
      by_cases e : j = n + 1
      · rw [e]; exact h
      · exact wayJ_up lim N n j h1 (by omega)
    · omega

/-! ### the reference's cache -/
def RQ (w : World) (rb : Nat) (room kept : Int) (N : List TH) : Prop := ∃ a cap, RC w rb rb a cap room kept (m3 N)
def RPost (rb : Nat) (room kept : Int) (v : Value) (N : List TH) (w : World) (e : Ending) (w' : World) : Prop :=
  e = .returned v ∧ RQ w' rb room kept N ∧ Keep (OneB rb) w w'
def RGPost (rb : Nat) (room kept : Int) (gone : List ByteArray) (N : List TH) (w : World) (e : Ending) (w' : World) : Prop :=
  ∃ a c, e = .returned (.tuple #[.slice a gone.length c, .bool true]) ∧ Own w' w.heap.size 9 1 cS (.slice a gone.length c) gone ∧ RQ w' rb room kept N ∧ Keep (OneB rb) w w'

section
variable {w w' : World} {rb : Nat} {room kept : Int} {N : List TH}
theorem RQ.blk (R : RQ w rb room kept N) : ∃ c, w.heap[rb]? = some (.cells c 49 (0, 0)) := by obtain ⟨a, cap, h⟩ := R; exact ⟨_, h.blk⟩
theorem RQ.lt (R : RQ w rb room kept N) : rb < w.heap.size := by obtain ⟨c, h⟩ := R.blk; exact blk_lt h
theorem RQ.keep0 (R : RQ w rb room kept N) (hk : Keep NoB w w') : RQ w' rb room kept N := by obtain ⟨a, cap, h⟩ := R; exact ⟨a, cap, h.keep0 hk⟩
theorem own_oth {α : Type} {w w' : World} {B size : Nat} {e : TypeId} {enc : α → List Value} {v : Value} {M : List α} (h : Own w B e size enc v M) (ho : Oth w w') (h1 : e ≠ 60) (h2 : e ≠ 64) : Own w' B e size enc v M := by
  refine ⟨h.1, ?_⟩
  rcases h.2 with hn | ⟨g, cap, cur, rfl, hb, hg, rest⟩
  · exact .inl hn
  · exact .inr ⟨g, cap, cur, rfl, hb, ho _ _ _ _ hg h1 h2, rest⟩
theorem RQ.oth (R : RQ w rb room kept N) (ho : Oth w w') : RQ w' rb room kept N := by
  obtain ⟨a, cap, h⟩ := R
  exact ⟨a, cap, ⟨ho _ _ _ _ h.blk (by decide) (by decide), own_oth h.own ho (by decide) (by decide)⟩⟩

theorem rdrop_q (R : RQ w rb room kept N) (p : PF room kept N) (s : ByteArray) (b : Bool) (hb : (fnd N s).isSome = b) (N' : List TH) (hN' : dropK N s = N') :
    Calls Try.prog 23 #[.pointer (some ⟨rb, 0, none⟩), .string s] w (RPost rb room kept (.bool b) N' w) := by
  subst hb hN'
  have hlt := R.lt
  obtain ⟨a, cap, T⟩ := R
  exact rdrop_any rb rb a cap room kept (m3 N) s w T (by omega) (by rw [m3_len]; exact p.len) _ _ (dropV_of p.keys)

theorem rputno_q (R : RQ w rb room kept N) (p : PF room kept N) (s : ByteArray) (z n : Int) (hz : z < 0 ∨ room - kept < z) (N' : List TH) (hN' : dropK N s = N') :
    Calls Try.prog 21 #[.pointer (some ⟨rb, 0, none⟩), .agg #[.string s, .int .i64 z, .int .i64 n]] w (RPost rb room kept (.tuple #[.slice none 0 0, .bool false]) N' w) := by
  subst hN'
  have hlt := R.lt
  have h1 := p.sum0
  have h2 := p.fits
  obtain ⟨a, cap, T⟩ := R
  exact rput_no rb rb a cap room kept (m3 N) s z n w T (by omega) (by rw [m3_len]; exact p.len) p.kept0 (by omega) p.room1 _ _ (dropV_of p.keys) hz

theorem rput_q (R : RQ w rb room kept N) (p : PF room kept N) (b : Nat) (s : ByteArray) (z n : Int) (hz0 : 0 ≤ z) (hz1 : z ≤ room - kept) (M : List TH) (gone : List ByteArray)
    (hM : (dropK N s).take (wayJ (room - z - kept) (dropK N s) (dropK N s).length) = M) (hg : goneK (dropK N s) (wayJ (room - z - kept) (dropK N s) (dropK N s).length) = gone) :
    Calls Try.prog 21 #[.pointer (some ⟨rb, 0, none⟩), .agg #[.string s, .int .i64 z, .int .i64 n]] w (RGPost rb room kept gone (⟨b, s, n, z⟩ :: M) w) := by
  have hlt := R.lt
  have h1 := p.sum0
  have h2 := p.fits
  have h3 := p.room1
  have h4 := sumS_drop p.pos s
  have h5 : ∀ x ∈ dropK N s, 0 ≤ x.s := fun x hx => p.pos x (dropK_mem hx).1
  have h6 : (dropK N s).length ≤ 100000 := Nat.le_trans dropK_len p.len
  obtain ⟨a, cap, T⟩ := R
  have := rput_yes rb rb a cap room kept (m3 N) s z n w T (by omega) (by rw [m3_len]; exact p.len) p.kept0 (by omega) p.room1 _ _ (dropV_of p.keys) (by rw [m3_len]; exact h6) (m3_pos h5) (by rw [sum3_m3]; omega) hz0 hz1
    (wayJ (room - z - kept) (dropK N s) (dropK N s).length) (by rw [m3_len]; exact wayJ_le _ _ _)
    (fun j hj1 hj2 => by rw [m3_len] at hj2; have := wayJ_up _ _ _ j hj1 hj2; rw [m3_take, sum3_m3]; omega)
    (Or.inr (by have := wayJ_fit (room - z - kept) (dropK N s) (by omega) (dropK N s).length; rw [m3_take, sum3_m3]; omega))
    (m3 (⟨b, s, n, z⟩ :: M)) (by rw [m3_take, hM]; rfl)
  rw [goneR_m3, hg] at this
  exact this

theorem rresno_q (R : RQ w rb room kept N) (p : PF room kept N) (n : Int) (hn : n < 0 ∨ room - kept < n) :
    Calls Try.prog 24 #[.pointer (some ⟨rb, 0, none⟩), .int .i64 n] w (RPost rb room kept (.tuple #[.slice none 0 0, .bool false]) N w) := by
  have h1 := p.sum0
  have h2 := p.fits
  obtain ⟨a, cap, T⟩ := R
  refine (rreserve_no rb rb a cap room kept n (m3 N) w T p.kept0 (by omega) p.room1 hn).mono ?_
  rintro _ w' ⟨rfl, hk⟩
  exact ⟨rfl, ⟨a, cap, T.keep0 hk⟩, hk.none⟩

theorem rres_q (R : RQ w rb room kept N) (p : PF room kept N) (n : Int) (hn0 : 0 ≤ n) (hn1 : n ≤ room - kept) (M : List TH) (gone : List ByteArray)
    (hM : N.take (wayJ (room - n - kept) N N.length) = M) (hg : goneK N (wayJ (room - n - kept) N N.length) = gone) :
    Calls Try.prog 24 #[.pointer (some ⟨rb, 0, none⟩), .int .i64 n] w (RGPost rb room (kept + n) gone M w) := by
  have hlt := R.lt
  have h1 := p.sum0
  have h2 := p.fits
  have h3 := p.room1
  have h4 := p.kept0
  obtain ⟨a, cap, T⟩ := R
  have := rreserve_yes rb rb a cap room kept n (m3 N) w T (by omega) (by rw [m3_len]; exact p.len) p.kept0 (m3_pos p.pos) (by rw [sum3_m3]; omega) hn0 (by omega) p.room1 hn1
    (wayJ (room - n - kept) N N.length) (by rw [m3_len]; exact wayJ_le _ _ _)
    (fun j hj1 hj2 => by rw [m3_len] at hj2; have := wayJ_up _ _ _ j hj1 hj2; rw [m3_take, sum3_m3]; omega)
    (Or.inr (by have := wayJ_fit (room - n - kept) N (by omega) N.length; rw [m3_take, sum3_m3]; omega))
  rw [goneR_m3, hg, m3_take, hM] at this
  exact this

theorem rrel_q (R : RQ w rb room kept N) (p : PF room kept N) (n k' : Int) (hk' : kept - (if 0 < n then min n kept else 0) = k') :
    Calls Try.prog 25 #[.pointer (some ⟨rb, 0, none⟩), .int .i64 n] w (RPost rb room k' (.tuple #[]) N w) := by
  have h1 := p.sum0
  have h2 := p.fits
  have h3 := p.room1
  obtain ⟨a, cap, T⟩ := R
  by_cases hn : 0 < n
  · rw [if_pos hn] at hk'
    exact rrelease_yes rb rb a cap room kept (m3 N) n k' w T p.kept0 (by omega) hn hk'
  · rw [if_neg hn] at hk'
    obtain rfl : kept = k' := by omega
    refine (rrelease_no rb rb a cap room kept (m3 N) n w T p.kept0 (by omega)).mono ?_
    rintro _ w' ⟨rfl, rfl⟩
    exact ⟨rfl, ⟨a, cap, T⟩, Keep.refl _ _⟩

def gotN (N : List TH) (key : ByteArray) (used : Bool) : List TH := if used then getN N key else N
theorem rget_q (R : RQ w rb room kept N) (p : PF room kept N) (s : ByteArray) (used : Bool) (v : Int) (hv : getV N s = v) (b : Bool) (hb : (fnd N s).isSome = b) (N' : List TH) (hN' : gotN N s used = N') :
    Calls Try.prog 22 #[.pointer (some ⟨rb, 0, none⟩), .string s, .bool used] w (RPost rb room kept (.tuple #[.int .i64 v, .bool b]) N' w) := by
  subst hv hb hN'
  have hlt := R.lt
  obtain ⟨a, cap, T⟩ := R
  have hl : (m3 N).length ≤ 100000 := by rw [m3_len]; exact p.len
  cases hf : fnd N s with
  | none =>
    have e : gotN N s used = N := by unfold gotN; rw [getN_none hf]; split <;> rfl
    rw [getV_none hf, e]
    refine (rget_no rb rb a cap room kept (m3 N) s used w T hl (m3_ne (fnd_none hf))).mono ?_
    rintro _ w' ⟨rfl, rfl⟩
    exact ⟨rfl, ⟨a, cap, T⟩, Keep.refl _ _⟩
  | some x =>
    have hd := dropK_split (A := []) (B := []) (x := x) (by simp)
    have hV := getV_some hf
    have hG := getN_some hf
    rw [hV]
    obtain ⟨h1, A, B, rfl, hA⟩ := fnd_split hf
    subst h1
    have hc := (dropK_split p.keys).1
    obtain ⟨xb, xk, xv, xs⟩ := x
    cases used with
    | false =>
      refine (rget_peek rb rb a cap room kept (m3 (A ++ ⟨xb, xk, xv, xs⟩ :: B)) xk A.length xs xv w T hl m3_mid (m3_low hA)).mono ?_
      rintro _ w' ⟨rfl, hk⟩
      exact ⟨rfl, ⟨a, cap, T.keep0 hk⟩, hk.none⟩
    | true =>
      refine rget_use rb rb a cap room kept (m3 (A ++ ⟨xb, xk, xv, xs⟩ :: B)) xk A.length xs xv w T (by omega) hl m3_mid (m3_low hA) _ ?_
      show _ = m3 (getN _ _)
      rw [hG, hc, m3_cut]
      rfl

theorem rused_q (R : RQ w rb room kept N) (p : PF room kept N) (u : Int) (hu : sumS N + kept = u) :
    Calls Try.prog 27 #[.pointer (some ⟨rb, 0, none⟩)] w fun e w' => e = .returned (.int .i64 u) ∧ w' = w := by
  have h1 := p.sum0
  have h2 := p.fits
  have h3 := p.room1
  obtain ⟨a, cap, T⟩ := R
  exact rused_any rb rb a cap room kept (m3 N) w T (by rw [m3_len]; exact p.len) p.kept0 (m3_pos p.pos) (by rw [sum3_m3]; omega) u (by rw [sum3_m3]; omega)
theorem rkeys_q (R : RQ w rb room kept N) (p : PF room kept N) (G : List ByteArray) (hG : N.map (·.k) = G) :
    Calls Try.prog 28 #[.pointer (some ⟨rb, 0, none⟩)] w (KeysPost G w) := by
  obtain ⟨a, cap, T⟩ := R
  exact rkeys_any rb rb a cap room kept (m3 N) w T (by rw [m3_len]; exact p.len) G (by rw [m3_keys]; exact hG)
end

/-! ### both -/
structure HS (w wx : World) (cb mb rb : Nat) (room kept : Int) (N : List TH) (k : Nat) : Prop where
  S : St w wx cb mb room kept N k
  R : RQ wx rb room kept N
  lo : w.heap.size ≤ rb
section
variable {w wx w' : World} {cb mb rb : Nat} {room kept : Int} {N : List TH} {k : Nat}
theorem St.pf (S : St w wx cb mb room kept N k) (hk : k ≤ 100000) : PF room kept N := ⟨S.T.keys, S.T.pos, S.T.kept0, S.T.fits, S.T.room1, Nat.le_trans S.len hk⟩
theorem HS.keep (D : HS w wx cb mb rb room kept N k) (hk : Keep NoB wx w') : HS w w' cb mb rb room kept N k := ⟨D.S.keep hk, D.R.keep0 hk, D.lo⟩
theorem HS.le (D : HS w wx cb mb rb room kept N k) {k' : Nat} (h : k ≤ k') : HS w wx cb mb rb room kept N k' := ⟨D.S.le h, D.R, D.lo⟩
theorem St.one (S : St w wx cb mb room kept N k) {kept' : Int} {N' : List TH} (R : RQ wx rb room kept' N') (lo : w.heap.size ≤ rb) (hk : Keep (OneB rb) wx w') : St w w' cb mb room kept N k := by
  obtain ⟨c, hc⟩ := R.blk
  have h1 : ¬ LS cb mb N rb := S.T.other hc (by decide) (by decide)
  exact ⟨S.T.keep hk (fun i hi e => h1 (by have e' : i = rb := e; rw [← e']; exact hi)), S.fr, S.len, S.hk.trans' hk (fun i hi e => by have e' : i = rb := e; omega)⟩
end

/-! ### Same -/
/-- A slice that reads as the texts l. -/
def Rd3 (w : World) (v : Value) (l : List ByteArray) : Prop := ∃ a c, v = .slice a l.length c ∧ ∀ (i : Nat) (x : ByteArray), l[i]? = some x → ∃ b off, a = some ⟨b, off, none⟩ ∧ b < w.heap.size ∧ w.cell? ⟨b, off + i, none⟩ = some (.string x)
theorem Own.rd3 {w : World} {B : Nat} {v : Value} {l : List ByteArray} (h : Own w B 9 1 cS v l) : Rd3 w v l := by
  obtain ⟨a, c, rfl⟩ := h.shape
  refine ⟨a, c, rfl, fun i x hx => ?_⟩
  obtain ⟨g, rfl, _, hl, h1, _⟩ := h.cell1 cS_len hx rfl
  exact ⟨g, 0, rfl, hl, by simpa using h1⟩
theorem rd3_nil (w : World) : Rd3 w (.slice none 0 0) [] := ⟨none, 0, rfl, fun i x hx => by simp at hx⟩

set_option maxHeartbeats 1000000 in
theorem same3 (v1 v2 : Value) (l : List ByteArray) (w : World) (h1 : Rd3 w v1 l) (h2 : Rd3 w v2 l) (hl : l.length ≤ 1000000) :
    Calls Try.prog 13 #[v1, v2] w fun e w' => e = .returned (.bool true) ∧ Keep NoB w w' := by
  obtain ⟨a1, c1, rfl, h1⟩ := h1
  obtain ⟨a2, c2, rfl, h2⟩ := h2
  have H1 := Lib.hid h1
  have H2 := Lib.hid h2
  clear h1 h2
  go_enter Try.func13, Try.ntmps13
  go_wp2_with fail
  go_loopw [5] (fun i wr => ∃ m : Nat, m ≤ l.length ∧ i = .int .i64 m ∧ Keep NoB w wr) (fun i _ => l.length - (intOf i).toNat)
  case atStart => exact ⟨0, Nat.zero_le _, rfl, Keep.refl _ _⟩
  case round =>
    obtain ⟨m, hm, rfl, hk⟩ := hrel
    by_cases hml : m < l.length
    · obtain ⟨x, hx⟩ : ∃ x, l[m]? = some x := ⟨_, List.getElem?_eq_getElem hml⟩
      obtain ⟨b1, o1, rfl, hb1, e1⟩ := H1.out m x hx
      obtain ⟨b2, o2, rfl, hb2, e2⟩ := H2.out m x hx
      have m1 := hk.some e1 (fun h => h)
      have m2 := hk.some e2 (fun h => h)
      have n1 := Nat.lt_of_lt_of_le hb1 hk.size
      have n2 := Nat.lt_of_lt_of_le hb2 hk.size
      clear hx e1 e2
      go_wp2_with fail
      go_quiet (fail)
      go_wp2_with fail
      go_roundw
      case rel => exact ⟨m + 1, hml, by go_num, hk.drewN _⟩
      case measure => simp [intOf]; omega
    · go_wp2_with fail
      go_ret
      exact ⟨rfl, hk⟩
end Go.Proofs.Ytgbcjnejlelndaa
