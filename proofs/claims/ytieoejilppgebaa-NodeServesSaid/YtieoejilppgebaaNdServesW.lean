/- The walk of NodeServes. -/
import Derived.Test.YtieoejilppgebaaNdSwD
import Derived.Test.YtieoejilppgebaaNdSwE
import Derived.Deep.Cut
import Derived.Deep.CutRange
import Derived.Deep.CutBlock
namespace Go.Proofs.Ytieoejilppgebaa
open Go Go.RowKit Go.Maps
set_option maxRecDepth 1000000



/-- Two nodes with nothing; a log. -/
structure BG (w wr : World) (nb wb gb : Nat) (b0 b1 : NB) (r : Int) (G : List EN) (k : Nat) : Prop where
  lo : w.heap.size ≤ nb ∧ w.heap.size ≤ wb ∧ w.heap.size ≤ gb
  nodes : wr.heap[nb]? = some (.cells #[.pointer (some ⟨b0.nb, 0, none⟩), .pointer (some ⟨b1.nb, 0, none⟩)] 46 (0, 0))
  ws : wr.heap[wb]? = some (.cells #[.int .i64 0, .int .i64 (k : Int)] 51 (0, 0))
  log : LG w wr gb G
  n0 : NL w wr b0 ⟨[], r, 0, [], 0, [], 0, [], false, 0⟩
  n1 : NL w wr b1 ⟨[], r, 0, [], 0, [], 0, [], false, 0⟩
  ap : ∀ q, NK b0 [] q → NK b1 [] q → False
  gk : ∀ x ∈ G, x.k.size ≤ 1000 ∧ x.t.size ≤ 1000
  gl : G.length = k
  hk : Keep NoB w wr

section
variable {w wr w' : World} {nb wb gb : Nat} {b0 b1 : NB} {r : Int} {G : List EN} {k : Nat}
theorem NL.other {w wr w' : World} {b : NB} {s : NS} {S' : Nat → Prop} (N : NL w wr b s) (hk : Keep S' wr w') (h1 : ∀ q, S' q → ∃ t, Sh wr q t ∧ (t = 46 ∨ t = 51 ∨ t = 50 ∨ t = 55 ∨ t = 62)) (h2 : ∀ q, q < w.heap.size → ¬ S' q) : NL w w' b s :=
  ⟨N.D.keep hk (fun q hq e => by
    obtain ⟨t, ht, hc⟩ := h1 q e
    rcases hc with rfl | rfl | rfl | rfl | rfl <;> exact N.D.nk_sh ht (by decide) (by decide) (by decide) (by decide) (by decide) (by decide) hq), N.fr, N.hk.trans' hk (fun q hq e => absurd e (h2 q hq))⟩
theorem BG.keep0 (B : BG w wr nb wb gb b0 b1 r G k) (hk : Keep NoB wr w') : BG w w' nb wb gb b0 b1 r G k :=
  ⟨B.lo, blk_keep B.nodes hk (fun h => h), blk_keep B.ws hk (fun h => h), B.log.keep hk (fun _ _ _ _ h => h), B.n0.keep hk, B.n1.keep hk, B.ap, B.gk, B.gl, B.hk.trans hk⟩
theorem BG.app (B : BG w wr nb wb gb b0 b1 r G k) {S' : Nat → Prop} (hk : Keep S' wr w') (hS : ∀ q, S' q → q = gb ∨ q = wb ∨ Sh wr q 55) (x : EN) (hl : LG w w' gb (G ++ [x])) (hws : w'.heap[wb]? = some (.cells #[.int .i64 0, .int .i64 ((k + 1 : Nat) : Int)] 51 (0, 0))) (hx : x.k.size ≤ 1000 ∧ x.t.size ≤ 1000) (h3 : ∀ q, q < w.heap.size → ¬ S' q) : BG w w' nb wb gb b0 b1 r (G ++ [x]) (k + 1) := by
  obtain ⟨ga, gc, hgb, O⟩ := B.log
  have hsh : ∀ q, S' q → ∃ t, Sh wr q t ∧ (t = 51 ∨ t = 50 ∨ t = 55) := by
    intro q e
    rcases hS q e with e | e | e
    · subst e; exact ⟨50, ⟨_, _, hgb⟩, by simp⟩
    · subst e; exact ⟨51, ⟨_, _, B.ws⟩, by simp⟩
    · exact ⟨55, e, by simp⟩
  have hno : ∀ q, S' q → ∃ t, Sh wr q t ∧ (t = 46 ∨ t = 51 ∨ t = 50 ∨ t = 55 ∨ t = 62) := fun q e => by
    obtain ⟨t, h1, h2⟩ := hsh q e
    exact ⟨t, h1, by rcases h2 with rfl | rfl | rfl <;> simp⟩
  refine ⟨B.lo, blk_keep B.nodes hk (fun e => ?_), hws, hl, B.n0.other hk hno h3, B.n1.other hk hno h3, B.ap, fun y hy => ?_, by have := B.gl; simp; omega, B.hk.trans' hk (fun q hq h => absurd h (h3 q hq))⟩
  · obtain ⟨t, h1, h2⟩ := hsh nb e
    exact sh_ne ⟨_, _, B.nodes⟩ h1 (by rcases h2 with rfl | rfl | rfl <;> decide) rfl
  · rcases List.mem_append.1 hy with h | h
    · exact B.gk y h
    · rw [List.mem_singleton] at h
      subst h
      exact hx
theorem sv_start {w wr w' : World} {nb wb gb : Nat} {b0 b1 : NB} {r : Int} {G : List EN} {k : Nat} (B : BG w wr nb wb gb b0 b1 r G k) (hk : k ≤ 7) (P : NPost wr w' b1 ⟨[], r, 0, [], 0, [], 0, [], false, 0⟩ ⟨[], r, 0, [], 0, [], 0, [], true, (k : Int)⟩) : ∃ b W s, SV w w' nb wb gb b G W W s [] (.slice none 0 0) 0 := by
  have hnk : ∀ {q : Nat} {t : TypeId}, Sh wr q t → t = 46 ∨ t = 51 ∨ t = 50 ∨ t = 55 ∨ t = 62 → ¬ NK b1 [] q := fun h ht => by
    rcases ht with rfl | rfl | rfl | rfl | rfl <;> exact B.n1.D.nk_sh h (by decide) (by decide) (by decide) (by decide) (by decide) (by decide)
  have N1 : NL w w' b1 ⟨[], r, 0, [], 0, [], 0, [], true, (k : Int)⟩ := B.n1.post P
  have N0 : NL w w' b0 ⟨[], r, 0, [], 0, [], 0, [], false, 0⟩ := ⟨B.n0.D.keep P.K (fun q h1 h2 => B.ap q h1 h2), B.n0.fr, B.n0.hk.trans' P.K (fun q hq h => by have := B.n1.fr q h; omega)⟩
  have hf0 : NN G 0 0 ⟨[], r, 0, [], 0, [], 0, [], false, 0⟩ := ⟨Nat.zero_le _, (by intro x hx; cases hx), Nat.le_refl _, List.nodup_nil, Nat.zero_le _, Nat.le_refl _, (by intro p hp; cases hp), Int.le_refl _, Int.le_refl _, Nat.zero_le _⟩
  have hf1 : NN G k 0 ⟨[], r, 0, [], 0, [], 0, [], true, (k : Int)⟩ := ⟨by have := B.gl; omega, (by intro x hx; cases hx), Nat.le_refl _, List.nodup_nil, Nat.zero_le _, Nat.le_refl _, (by intro p hp; cases hp), Int.le_refl _, Int.le_refl _, Nat.zero_le _⟩
  refine ⟨fun i => if i = 0 then b0 else b1, fun i => if i = 0 then 0 else k, fun i => if i = 0 then ⟨[], r, 0, [], 0, [], 0, [], false, 0⟩ else ⟨[], r, 0, [], 0, [], 0, [], true, (k : Int)⟩, ?_⟩
  refine ⟨B.lo, blk_keep B.nodes P.K (hnk ⟨_, _, B.nodes⟩ (by simp)), blk_keep B.ws P.K (hnk ⟨_, _, B.ws⟩ (by simp)), B.log.keep P.K (fun q t h ht => hnk h (by rcases ht with rfl | rfl <;> simp)), Own.nil _ _ _ _ _, fun i hi => ?_, fun q h1 h2 => B.ap q h1 h2, fun i hi => ?_, ⟨rfl, k, rfl, fun j x h1 h2 => by simp at h2; omega⟩, rfl, (by intro r hr; cases hr), B.gk, by have := B.gl; omega, Nat.zero_le _, B.hk.trans' P.K (fun q hq h => by have := B.n1.fr q h; omega)⟩
  · have hc : i = 0 ∨ i = 1 := by omega
    rcases hc with rfl | rfl
    · exact N0
    · exact N1
  · have hc : i = 0 ∨ i = 1 := by omega
    rcases hc with rfl | rfl
    · exact hf0
    · exact hf1
end

set_option maxHeartbeats 40000000 in
theorem serves_walk (room : Int) (hroom : room ≤ 9223372036854775807) (mk : Int) (hmk0 : 0 ≤ mk) (hmk1 : mk ≤ 255) (a2 : Option Addr) (len2 cap2 : Nat) (z2 : Nat → WY) (w : World) (h2 : IsW w a2 len2 z2) :
    Calls Try.prog 5 #[.int .i64 room, .int .u8 mk, .slice a2 len2 cap2] w fun e w' => e = .returned (.bool true) ∧ Below w.heap.size w w' := by
  obtain ⟨hmax, hok, hrow⟩ := h2
  unfold maxLen at hmax
  obtain ⟨r, hr⟩ : ∃ r, max room 0 = r := ⟨_, rfl⟩
  have hr1 : r ≤ 9223372036854775807 := by omega
  have Hr := Lib.hid hr
  have Hok := Lib.hid hok
  have Hrow := Lib.hid hrow
  obtain ⟨m, hm⟩ : ∃ m : Nat, (m : Int) = mk % 8 := ⟨(mk % 8).toNat, by omega⟩
  have hm7 : m ≤ 7 := by omega
  have hwm : IntKind.i64.wrap mk = mk := IntWalk.i64_in _ (by omega)
  have Hm := Lib.hid hm
  clear hr hok hrow hm
  go_enter Try.func5, Try.ntmps5
  go_wp2_with fail
  refine (awake_any _).mono ?_
  rintro _ w0 ⟨rfl, k0⟩
  go_wp2_with fail
  refine (new_any room r _ Hr.out hr1).mono ?_
  rintro _ w1 ⟨b0, rfl, D0, k1, hf0⟩
  have N0 := nl_new k0 D0 k1 hf0
  have hlt0 : ∀ q, NK b0 [] q → q < w1.heap.size := fun q hq => D0.lt hq
  have HN0 := Lib.hid N0
  have Hlt0 := Lib.hid hlt0
  clear D0 hf0 N0 hlt0
  go_wp2_with fail
  refine (new_any room r _ Hr.out hr1).mono ?_
  rintro _ w2 ⟨b1, rfl, D1, k2, hf1⟩
  have HN1 := Lib.hid (nl_new (k0.trans k1) D1 k2 hf1)
  have HN0' := Lib.hid (HN0.out.keep k2)
  have Hap := Lib.hid (show ∀ q, NK b0 [] q → NK b1 [] q → False from fun q h1 h2 => by have := Hlt0.out q h1; have := hf1 q h2; omega)
  have K2 := Lib.hid ((k0.trans k1).trans k2)
  clear D1 hf1 k0 k1 k2 HN0
  have z1 : ∀ o1 o2 o3 : Obj, (((w2.alloc o1).alloc o2).alloc o3).heap[w2.heap.size]? = some o1 ∧ (((w2.alloc o1).alloc o2).alloc o3).heap[w2.heap.size + 1]? = some o2 ∧ (((w2.alloc o1).alloc o2).alloc o3).heap[w2.heap.size + 1 + 1]? = some o3 := by
    intro o1 o2 o3
    refine ⟨blk_alloc (blk_alloc (blk_new w2 o1)), blk_alloc (blk_new2 w2 o1 o2), ?_⟩
    have h := blk_new2 (w2.alloc o1) o2 o3
    have e : (w2.alloc o1).heap.size = w2.heap.size + 1 := by simp
    rw [e] at h
    exact h
  have z2' := z1 (.cells #[.pointer (some ⟨b0.nb, 0, none⟩), .pointer (some ⟨b1.nb, 0, none⟩)] 46) (.cells #[.slice none 0 0] 50) (.cells #[.int .i64 0, .int .i64 0] 51)
  have Z := Lib.hid z2'
  have hw2 : w.heap.size ≤ w2.heap.size := K2.out.size
  have k3 : Keep NoB w2 (((w2.alloc (.cells #[.pointer (some ⟨b0.nb, 0, none⟩), .pointer (some ⟨b1.nb, 0, none⟩)] 46)).alloc (.cells #[.slice none 0 0] 50)).alloc (.cells #[.int .i64 0, .int .i64 0] 51)) := (((Keep.refl NoB w2).alloc _).alloc _).alloc _
  have K3 := Lib.hid k3
  clear z1 z2' k3
  go_wp2_with fail
  generalize ((w2.alloc (.cells #[.pointer (some ⟨b0.nb, 0, none⟩), .pointer (some ⟨b1.nb, 0, none⟩)] 46)).alloc (.cells #[.slice none 0 0] 50)).alloc (.cells #[.int .i64 0, .int .i64 0] 51) = w3 at Z K3 ⊢
  obtain ⟨nb, hnb⟩ : ∃ q, w2.heap.size = q := ⟨_, rfl⟩
  obtain ⟨gb, hgb⟩ : ∃ q, w2.heap.size + 1 = q := ⟨_, rfl⟩
  obtain ⟨wb, hwb⟩ : ∃ q, w2.heap.size + 1 + 1 = q := ⟨_, rfl⟩
  rw [hwb, hgb, hnb] at Z
  rw [hwb, hgb, hnb]
  have HB3 := Lib.hid (show BG w w3 nb wb gb b0 b1 r [] 0 from ⟨⟨by omega, by omega, by omega⟩, Z.out.1, Z.out.2.2, ⟨none, 0, Z.out.2.1, Own.nil _ _ _ _ _⟩, HN0'.out.keep K3.out, HN1.out.keep K3.out, Hap.out, (by intro x hx; cases hx), rfl, K2.out.trans K3.out⟩)
  clear hnb hgb hwb Z K3 K2 HN0' HN1 Hap hw2 Hlt0
  go_loopw [11] (fun iv wr => ∃ (k : Nat) (G : List EN), k ≤ m ∧ iv = .int .i64 (k : Int) ∧ BG w wr nb wb gb b0 b1 r G k) (fun iv _ => m - (intOf iv).toNat)
  case atStart => exact ⟨0, [], Nat.zero_le _, rfl, HB3.out⟩
  case round =>
    clear HB3
    obtain ⟨k, G, hkm, rfl, B⟩ := hrel
    obtain ⟨ga, gc, hgb, O⟩ := B.log
    have HB := Lib.hid B
    have HO := Lib.hid O
    have Hgb := Lib.hid hgb
    clear O
    by_cases hgo : k < m
    · have d4 : decide ((k : Int) < mk % 8) = true := decide_eq_true (by have := Hm.out; omega)
      have hw1 : IntKind.i64.wrap ((k : Int) + 1) = (k : Int) + 1 := IntWalk.i64_in _ (by omega)
      obtain ⟨c8, hc8⟩ : ∃ c : UInt8, (c.toNat : Int) = 97 + (k : Int) % 3 := by
        have h3 : (k : Int) % 3 = 0 ∨ (k : Int) % 3 = 1 ∨ (k : Int) % 3 = 2 := by omega
        rcases h3 with h | h | h
        · exact ⟨97, by rw [h]; rfl⟩
        · exact ⟨98, by rw [h]; rfl⟩
        · exact ⟨99, by rw [h]; rfl⟩
      have hw3 : IntKind.i64.wrap (97 + (k : Int) % 3) = 97 + (k : Int) % 3 := IntWalk.i64_in _ (by omega)
      have hw4 : IntKind.u8.wrap (97 + (k : Int) % 3) = 97 + (k : Int) % 3 := by
        have h3 : (k : Int) % 3 = 0 ∨ (k : Int) % 3 = 1 ∨ (k : Int) % 3 = 2 := by omega
        rcases h3 with h | h | h <;> rw [h] <;> decide
      have Hc8 := Lib.hid hc8
      clear hc8
      go_wp2_with fail
      refine wp_region_pl (fun u => u.cell? ⟨gb, 0, none⟩ = some (.slice ga G.length gc)) [19] (.rd 0 (.rd 1 (.rd 2 (.rd 3 (.rd 4 (.rd 5 (.rd 6 (.rd 7 (.rd 8 (.rd 9 (.rd 10 (.rd 11 (.one 12 (.one 13 (.rd 14 (.one 15 (.one 16 (.one 17 (.rd 18 (.one 19 .done)))))))))))))))))))) (by kernel_rfl) (by kernel_rfl) (by kernel_rfl) (by kernel_rfl) (by intro c b d v u h; cases d <;> exact h) ?_
      have kd : Keep NoB wr wr.drew := (Keep.refl NoB wr).drew
      have c0 := blk_cell (blk_keep hgb kd (fun h => h)) 0
      simp at c0
      have HS := Lib.hid (show wr.drew.cell? ⟨gb, 0, none⟩ = some (.slice ga G.length gc) from c0)
      have Hkd := Lib.hid kd
      clear c0 kd
      generalize wr.drew = wd at HS Hkd ⊢
      first
        | refine pl_get (i := 0) rfl rfl HS.out rfl (fun u hu => by (try dsimp only at hu); go_simp; rfl) (by simp only [List.setIfInBounds_toArray, List.set_cons_succ, List.set_cons_zero]; rfl) ?_
        | refine pl_skip (i := 0) rfl rfl HS.out rfl (by simp only [List.setIfInBounds_toArray, List.set_cons_succ, List.set_cons_zero]; rfl) ?_
      first
        | refine pl_get (i := 1) rfl rfl HS.out rfl (fun u hu => by (try dsimp only at hu); go_simp; rfl) (by simp only [List.setIfInBounds_toArray, List.set_cons_succ, List.set_cons_zero]; rfl) ?_
        | refine pl_skip (i := 1) rfl rfl HS.out rfl (by simp only [List.setIfInBounds_toArray, List.set_cons_succ, List.set_cons_zero]; rfl) ?_
      first
        | refine pl_get (i := 2) rfl rfl HS.out rfl (fun u hu => by (try dsimp only at hu); go_simp; rfl) (by simp only [List.setIfInBounds_toArray, List.set_cons_succ, List.set_cons_zero]; rfl) ?_
        | refine pl_skip (i := 2) rfl rfl HS.out rfl (by simp only [List.setIfInBounds_toArray, List.set_cons_succ, List.set_cons_zero]; rfl) ?_
      first
        | refine pl_get (i := 3) rfl rfl HS.out rfl (fun u hu => by (try dsimp only at hu); go_simp; rfl) (by simp only [List.setIfInBounds_toArray, List.set_cons_succ, List.set_cons_zero]; rfl) ?_
        | refine pl_skip (i := 3) rfl rfl HS.out rfl (by simp only [List.setIfInBounds_toArray, List.set_cons_succ, List.set_cons_zero]; rfl) ?_
      first
        | refine pl_get (i := 4) rfl rfl HS.out rfl (fun u hu => by (try dsimp only at hu); go_simp; rfl) (by simp only [List.setIfInBounds_toArray, List.set_cons_succ, List.set_cons_zero]; rfl) ?_
        | refine pl_skip (i := 4) rfl rfl HS.out rfl (by simp only [List.setIfInBounds_toArray, List.set_cons_succ, List.set_cons_zero]; rfl) ?_
      first
        | refine pl_get (i := 5) rfl rfl HS.out rfl (fun u hu => by (try dsimp only at hu); go_simp; rfl) (by simp only [List.setIfInBounds_toArray, List.set_cons_succ, List.set_cons_zero]; rfl) ?_
        | refine pl_skip (i := 5) rfl rfl HS.out rfl (by simp only [List.setIfInBounds_toArray, List.set_cons_succ, List.set_cons_zero]; rfl) ?_
      first
        | refine pl_get (i := 6) rfl rfl HS.out rfl (fun u hu => by (try dsimp only at hu); go_simp; rfl) (by simp only [List.setIfInBounds_toArray, List.set_cons_succ, List.set_cons_zero]; rfl) ?_
        | refine pl_skip (i := 6) rfl rfl HS.out rfl (by simp only [List.setIfInBounds_toArray, List.set_cons_succ, List.set_cons_zero]; rfl) ?_
      first
        | refine pl_get (i := 7) rfl rfl HS.out rfl (fun u hu => by (try dsimp only at hu); go_simp; rfl) (by simp only [List.setIfInBounds_toArray, List.set_cons_succ, List.set_cons_zero]; rfl) ?_
        | refine pl_skip (i := 7) rfl rfl HS.out rfl (by simp only [List.setIfInBounds_toArray, List.set_cons_succ, List.set_cons_zero]; rfl) ?_
      first
        | refine pl_get (i := 8) rfl rfl HS.out rfl (fun u hu => by (try dsimp only at hu); go_simp; rfl) (by simp only [List.setIfInBounds_toArray, List.set_cons_succ, List.set_cons_zero]; rfl) ?_
        | refine pl_skip (i := 8) rfl rfl HS.out rfl (by simp only [List.setIfInBounds_toArray, List.set_cons_succ, List.set_cons_zero]; rfl) ?_
      first
        | refine pl_get (i := 9) rfl rfl HS.out rfl (fun u hu => by (try dsimp only at hu); go_simp; rfl) (by simp only [List.setIfInBounds_toArray, List.set_cons_succ, List.set_cons_zero]; rfl) ?_
        | refine pl_skip (i := 9) rfl rfl HS.out rfl (by simp only [List.setIfInBounds_toArray, List.set_cons_succ, List.set_cons_zero]; rfl) ?_
      first
        | refine pl_get (i := 10) rfl rfl HS.out rfl (fun u hu => by (try dsimp only at hu); go_simp; rfl) (by simp only [List.setIfInBounds_toArray, List.set_cons_succ, List.set_cons_zero]; rfl) ?_
        | refine pl_skip (i := 10) rfl rfl HS.out rfl (by simp only [List.setIfInBounds_toArray, List.set_cons_succ, List.set_cons_zero]; rfl) ?_
      first
        | refine pl_get (i := 11) rfl rfl HS.out rfl (fun u hu => by (try dsimp only at hu); go_simp; rfl) (by simp only [List.setIfInBounds_toArray, List.set_cons_succ, List.set_cons_zero]; rfl) ?_
        | refine pl_skip (i := 11) rfl rfl HS.out rfl (by simp only [List.setIfInBounds_toArray, List.set_cons_succ, List.set_cons_zero]; rfl) ?_
      refine pl_one (i := 12) rfl ?_
      go_wp2_with (fail)
      have HS2 := Lib.hid (show (wd.alloc (.cells #[.int .u8 (97 + (k : Int) % 3)] 5)).cell? ⟨gb, 0, none⟩ = some (.slice ga G.length gc) from ((Keep.refl NoB wd).alloc _).some HS.out (fun h => h))
      refine pl_next (fun _ => HS2.out) ?_
      have hs1 : (convert 53 9 (.slice (some ⟨wd.heap.size, 0, none⟩) 1 1)).run Try.prog (wd.alloc (.cells #[.int .u8 (97 + (k : Int) % 3)] 5)) = .ok (.string ⟨([c8] : List UInt8).toArray⟩) (wd.alloc (.cells #[.int .u8 (97 + (k : Int) % 3)] 5)) :=
        run_convert_bytes_back _ 53 9 5 ⟨wd.heap.size, 0, none⟩ 1 [c8] Try.underlying53 Try.underlying5 Try.underlying9 (fun j hj => by
          have hj0 : j = 0 := by simp at hj; exact hj
          subst hj0
          have h := blk_cell (blk_new wd (.cells #[.int .u8 (97 + (k : Int) % 3)] 5)) 0
          simp [Addr.add, Hc8.out])
      refine pl_one (i := 13) rfl ?_
      go_wp2_with (fail)
      refine pl_next (fun _ => HS2.out) ?_
      first
        | refine pl_get (i := 14) rfl rfl HS2.out rfl (fun u hu => by (try dsimp only at hu); go_simp; rfl) (by simp only [List.setIfInBounds_toArray, List.set_cons_succ, List.set_cons_zero]; rfl) ?_
        | refine pl_skip (i := 14) rfl rfl HS2.out rfl (by simp only [List.setIfInBounds_toArray, List.set_cons_succ, List.set_cons_zero]; rfl) ?_
      refine pl_one (i := 15) rfl ?_
      go_wp2_with (fail)
      have kx : Keep NoB wd ((wd.alloc (.cells #[.int .u8 (97 + (k : Int) % 3)] 5)).alloc (.cells #[.int .i64 1, .int .i64 ((k : Int) + 1), .int .i64 0, .int .i64 0, .string ⟨#[c8]⟩, .bool false, .string ⟨#[111, 108, 100]⟩] 55)) := ((Keep.refl NoB wd).alloc _).alloc _
      have HS3 := Lib.hid (show ((wd.alloc (.cells #[.int .u8 (97 + (k : Int) % 3)] 5)).alloc (.cells #[.int .i64 1, .int .i64 ((k : Int) + 1), .int .i64 0, .int .i64 0, .string ⟨#[c8]⟩, .bool false, .string ⟨#[111, 108, 100]⟩] 55)).cell? ⟨gb, 0, none⟩ = some (.slice ga G.length gc) from kx.some HS.out (fun h => h))
      refine pl_next (fun _ => HS3.out) ?_
      have ex := blk_new2 wd (.cells #[.int .u8 (97 + (k : Int) % 3)] 5) (.cells #[.int .i64 1, .int .i64 ((k : Int) + 1), .int .i64 0, .int .i64 0, .string ⟨#[c8]⟩, .bool false, .string ⟨#[111, 108, 100]⟩] 55)
      have K3 := Lib.hid (Hkd.out.trans kx)
      have HO3 := Lib.hid (HO.out.keep K3.out (fun _ _ h => h))
      have hws3 : w.heap.size ≤ ((wd.alloc (.cells #[.int .u8 (97 + (k : Int) % 3)] 5)).alloc (.cells #[.int .i64 1, .int .i64 ((k : Int) + 1), .int .i64 0, .int .i64 0, .string ⟨#[c8]⟩, .bool false, .string ⟨#[111, 108, 100]⟩] 55)).heap.size := Nat.le_trans HB.out.hk.size K3.out.size
      obtain ⟨eb, heb⟩ : ∃ q, wd.heap.size + 1 = q := ⟨_, rfl⟩
      rw [heb] at ex
      clear hs1 HS2 kx
      simp only [heb]
      generalize (wd.alloc (.cells #[.int .u8 (97 + (k : Int) % 3)] 5)).alloc (.cells #[.int .i64 1, .int .i64 ((k : Int) + 1), .int .i64 0, .int .i64 0, .string ⟨#[c8]⟩, .bool false, .string ⟨#[111, 108, 100]⟩] 55) = we at ex K3 HO3 HS3 hws3 ⊢
      obtain ⟨G', hG'⟩ : ∃ l, G ++ [(⟨(k : Int) + 1, ⟨#[c8]⟩, ⟨#[111, 108, 100]⟩⟩ : EN)] = l := ⟨_, rfl⟩
      have HG' := Lib.hid hG'
      have hGl : G.length ≤ 100 := by have := HB.out.gl; omega
      clear hG'
      refine pl_one (i := 16) rfl ?_
      refine wpList_append_one (B := w.heap.size) rfl (.tmp 46) (.tmp 57) 48 rfl Try.underlying48 info55' (by kernel_rfl) (by decide) (by decide) rfl HO3.out enCells_len ⟨(k : Int) + 1, ⟨#[c8]⟩, ⟨#[111, 108, 100]⟩⟩ rfl (c := #[.int .i64 1, .int .i64 ((k : Int) + 1), .int .i64 0, .int .i64 0, .string ⟨#[c8]⟩, .bool false, .string ⟨#[111, 108, 100]⟩]) (t' := 55) (f := (0, 0)) ex rfl (enCells_one _) (by omega) hws3 HG'.out ?_
      intro a4 c4 w4 O4 k4
      have HB3 := Lib.hid (HB.out.keep0 K3.out)
      have Hgb3 := Lib.hid (blk_keep Hgb.out K3.out (fun h => h))
      have hgo4 : ∀ g, (Value.slice ga G.length gc).ownBlock = some g → g ≠ gb := fun g hg => HO3.out.ne Hgb3.out (by decide) g hg
      have hwo4 : ∀ g, (Value.slice ga G.length gc).ownBlock = some g → g ≠ wb := fun g hg => HO3.out.ne HB3.out.ws (by decide) g hg
      have hgw : gb ≠ wb := sh_ne ⟨_, _, Hgb3.out⟩ ⟨_, _, HB3.out.ws⟩ (by decide)
      have bg4 := blk_keep Hgb3.out k4 (fun e => hgo4 gb e rfl)
      have bw4 := blk_keep HB3.out.ws k4 (fun e => hwo4 wb e rfl)
      have g0 := blk_cell bg4 0
      have gf := blk_free bg4 0
      have gl := blk_lt bg4
      simp at g0
      have HS4 := Lib.hid g0
      have HO4 := Lib.hid O4
      have Hk4 := Lib.hid k4
      have Hbg4 := Lib.hid bg4
      have Hbw4 := Lib.hid bw4
      clear O4 k4 bg4 bw4 ex hws3 HS3 HS
      refine pl_next (fun _ => HS4.out) ?_
      (try simp only [Act.put, List.getElem_toArray, List.getElem_cons_succ, List.getElem_cons_zero, List.setIfInBounds_toArray, List.set_cons_succ, List.set_cons_zero])
      refine pl_one (i := 17) rfl ?_
      go_wp2_with (fail)
      refine pl_next (fun _ => HS4.out) ?_
      first
        | refine pl_get (i := 18) rfl rfl HS4.out rfl (fun u hu => by (try dsimp only at hu); go_simp; rfl) (by simp only [List.setIfInBounds_toArray, List.set_cons_succ, List.set_cons_zero]; rfl) ?_
        | refine pl_skip (i := 18) rfl rfl HS4.out rfl (by simp only [List.setIfInBounds_toArray, List.set_cons_succ, List.set_cons_zero]; rfl) ?_
      refine pl_one (i := 19) rfl ?_
      go_wp2_with (fail)
      have b5 := blk_setCell (i := 0) Hbg4.out (.slice a4 G'.length c4)
      have K5 := (Keep.refl (OneB gb) w4).setCell (p := ⟨gb, 0, none⟩) (Or.inr rfl) (.slice a4 G'.length c4)
      simp at b5
      generalize World.setCell _ _ _ = w5 at b5 K5 ⊢
      refine pl_next (fun h => by cases h) ?_
      refine pl_done ?_
      have bw5 := blk_keep Hbw4.out K5 (fun e => hgw (Eq.symm e))
      have x1 := blk_cell bw5 1
      have xf := blk_free bw5 1
      have xl := blk_lt bw5
      simp at x1
      have Hb5 := Lib.hid b5
      have HK5 := Lib.hid K5
      have Hbw5 := Lib.hid bw5
      clear b5 K5 bw5 g0 gf gl
      go_wp2_with fail
      have b6 := blk_setCell (i := 1) Hbw5.out (.int .i64 ((k : Int) + 1))
      have K6 := (Keep.refl (OneB wb) w5).setCell (p := ⟨wb, 1, none⟩) (Or.inr rfl) (.int .i64 ((k : Int) + 1))
      simp at b6
      generalize World.setCell _ _ _ = w6 at b6 K6 ⊢
      have hlo := HB3.out.lo
      have K46 : Keep (fun q => (Value.slice ga G.length gc).ownBlock = some q ∨ q = gb ∨ q = wb) we w6 := ((Hk4.out.mono (fun q h => Or.inl h)).trans (HK5.out.mono (fun q h => Or.inr (Or.inl h)))).trans (K6.mono (fun q h => Or.inr (Or.inr h)))
      have hlow : ∀ q, q < w.heap.size → ¬ ((Value.slice ga G.length gc).ownBlock = some q ∨ q = gb ∨ q = wb) := by
        rintro q hq (h | h | h)
        · have := HO3.out.fresh q h; omega
        · omega
        · omega
      have hO6 : Own w6 w.heap.size 55 7 enCells (.slice a4 G'.length c4) G' := (HO4.out.keep HK5.out (fun g hg e => (HO4.out.ne Hbg4.out (by decide) g hg) e)).keep K6 (fun g hg e => (HO4.out.ne Hbw4.out (by decide) g hg) e)
      have hL6 : LG w w6 gb G' := ⟨a4, c4, blk_keep Hb5.out K6 (fun e => hgw e), hO6⟩
      have HB6 := Lib.hid (HB3.out.app K46 (fun q h => h.elim (fun h => Or.inr (Or.inr (own_sh HO3.out q h))) (fun h => h.elim Or.inl (fun h => Or.inr (Or.inl h)))) ⟨(k : Int) + 1, ⟨#[c8]⟩, ⟨#[111, 108, 100]⟩⟩ (by rw [HG'.out]; exact hL6) (by simpa using b6) ⟨(by show (1 : Nat) ≤ 1000; decide), (by show (3 : Nat) ≤ 1000; decide)⟩ hlow)
      clear b6 K6 K46 hlow hO6 hL6 x1 xf xl
      go_roundw
      case rel => exact ⟨k + 1, _, hgo, by go_num, HB6.out⟩
      case measure => simp [intOf]; omega
    · have d4 : decide ((k : Int) < mk % 8) = false := decide_eq_false (by have := Hm.out; omega)
      have n0 := blk_cell B.nodes 1
      have nl := blk_lt B.nodes
      have v1 := blk_cell B.ws 1
      have vl := blk_lt B.ws
      simp at n0 v1
      clear B hgb Hgb HO
      go_wp2_with fail
      refine (cold_any wr b1 _ HB.out.n1.D (k : Int)).mono ?_
      rintro _ w2 ⟨rfl, P2⟩
      obtain ⟨b, W, s, S2⟩ := sv_start HB.out (by omega) P2
      have HS2 := Lib.hid S2
      clear P2 S2 HB n0 nl v1 vl d4 hgo hkm
      clear Hm hwm hm7
      go_wp2_with fail
      go_loopw [10, 12] (fun rv iv wr => ∃ (k : Nat) (G : List EN) (W : Nat → Nat) (s : Nat → NS) (RD : List RR) (ra : Option Addr) (rc : Nat), k ≤ len2 ∧ k ≤ 150 ∧ iv = .int .i64 (k : Int) ∧ rv = .slice ra RD.length rc ∧ SV w wr nb wb gb b G W W s RD (.slice ra RD.length rc) k) (fun _ iv _ => len2 - (intOf iv).toNat)
      case atStart => exact ⟨0, G, W, s, [], none, 0, Nat.zero_le _, Nat.zero_le _, rfl, rfl, HS2.out⟩
      case round =>
        clear HS2 W s
        obtain ⟨k, G, W, s, RD, ra, rc, hk0, hk150, rfl, rfl, S⟩ := hrel
        have HS := Lib.hid S
        clear S
        by_cases hgo : k < len2 ∧ k < 150
        · obtain ⟨hlt, h150⟩ := hgo
          have h150i : decide ((k : Int) < 150) = true := decide_eq_true (by omega)
          rcases Hrow.out with h | ⟨rb, off, rfl, hb, hc⟩
          · omega
          have hcw := hc k hlt
          have hop := Hok.out k hlt
          clear hc
          obtain ⟨x, hzk⟩ : ∃ x, z2 k = x := ⟨_, rfl⟩
          rw [hzk] at hcw hop
          clear hzk
          obtain ⟨kd, who, ii, key, text⟩ := x
          have l0 := HS.out.hk.some (hcw 0 (by omega)) (fun h => h)
          have l1 := HS.out.hk.some (hcw 1 (by omega)) (fun h => h)
          have l2 := HS.out.hk.some (hcw 2 (by omega)) (fun h => h)
          have l3 := HS.out.hk.some (hcw 3 (by omega)) (fun h => h)
          have l4 := HS.out.hk.some (hcw 4 (by omega)) (fun h => h)
          simp only [Nat.add_zero] at l0 l1 l2 l3 l4
          have hb0 : rb < wr.heap.size := Nat.lt_of_lt_of_le hb HS.out.hk.size
          have Hop := Lib.hid hop
          clear hcw hop
          by_cases hts : key.size ≤ 1000 ∧ text.size ≤ 1000
          case neg =>
            have hts2 : (decide (1000 < (key.size : Int)) = true) ∨ (decide (1000 < (key.size : Int)) = false ∧ decide (1000 < (text.size : Int)) = true) := by
              by_cases h1 : key.size ≤ 1000
              · right
                have : ¬ text.size ≤ 1000 := fun h => hts ⟨h1, h⟩
                exact ⟨decide_eq_false (by omega), decide_eq_true (by omega)⟩
              · exact Or.inl (decide_eq_true (by omega))
            rcases hts2 with d3 | ⟨d3, d5⟩
            all_goals
              clear hts
              go_wp2_with fail
              go_ret
              exact ⟨rfl, (HS.out.hk.alloc _).below (fun _ _ h => h)⟩
          obtain ⟨hks, hts'⟩ := hts
          have d3 : decide (1000 < (key.size : Int)) = false := decide_eq_false (by omega)
          have d5 : decide (1000 < (text.size : Int)) = false := decide_eq_false (by omega)
          obtain ⟨kw, hbits⟩ : ∃ n : Nat, bits .and .i64 who 1 = (n : Int) := ⟨(who % 2).toNat, by rw [i64_and1]; omega⟩
          have hkw : kw < 2 := by rw [i64_and1] at hbits; omega
          go_upto_block 4 with fail
          clear hbits
          have bV := blk_new wr (.cells #[.int .i64 kd, .int .i64 who, .int .i64 ii, .string key, .string text] 58)
          have DV := HS.out.keep0 ((Keep.refl NoB wr).alloc (.cells #[.int .i64 kd, .int .i64 who, .int .i64 ii, .string key, .string text] 58))
          generalize World.alloc wr (.cells #[.int .i64 kd, .int .i64 who, .int .i64 ii, .string key, .string text] 58) = V at bV DV ⊢
          generalize wr.heap.size = ob at bV ⊢
          have HDV := Lib.hid DV
          have HbV := Lib.hid bV
          clear l0 l1 l2 l3 l4 HS bV DV
          refine wp_mono (sw_all hkw hks hts' hk150 Hop.out HDV.out HbV.out _ _ _ _ _ _ _ _ _ _ _ _ _ _ _ _ _ _ _ _ _ _ _ _ _ _ _ _ _ _ _ _ _ _ _ _ _ _ _ _ _ _ _ _ _ _ _ _ _ _ _ _ _ _ _ _ _ _ _ _ _ _ _ _ _ _ _ _ _ _ _ _ _ _ _ _ _ _ _ _ _ _ _ _ _ _ _ _ _ _ _ _ _ _ _ _ _ _ _ _ _ _ _ _ _ _ _ _ _ _ _ _ _ _ _ _ _ _ _ _ _ _ _ _ _ _ _ _ _ _ _ _ _ _ _ _ _ _ _ _ _ _ _ _ _ _ _ _ _ _ _ _ _ _ _ _ _ _ _ _ _ _ _ _ _ _ _ _ _ _ _ _ _ _ _ _ _ _ _ _ _ _ _ _ _ _ _ _ _ _ _ _ _ _ _ _ _ _ _ _ _ _ _ _ _ _ _ _ _ _ _ _ _ _ _ _ _ _ _ _ _ _ _ _ _ _ _ _ _ _ _ _ _ _ _ _ _ _ _ _ _ _ _ _ _ _ _ _ _ _ _ _ _ _ _ _ _ _ _ _ _ _ _ _ _ _ _ _ _ _ _ _ _ _ _ _ _ _ _ _ _ _ _ _ _ _ _ _ _ _ _ _ _ _ _ _ _ _ _ _ _ _ _ _ _ _ _ _ _ _ _ _ _ _ _ _ _ _ _ _ _ _ _ _ _ _ _ _ _ _ _ _ _ _ _ _ _) ?_
          intro e a' w' hP
          unfold SwPost at hP
          obtain ⟨rfl, hP⟩ := hP
          obtain ⟨v15, hP⟩ := hP
          obtain ⟨v16, hP⟩ := hP
          obtain ⟨v17, hP⟩ := hP
          obtain ⟨v18, hP⟩ := hP
          obtain ⟨v19, hP⟩ := hP
          obtain ⟨v99, hP⟩ := hP
          obtain ⟨v100, hP⟩ := hP
          obtain ⟨v101, hP⟩ := hP
          obtain ⟨v102, hP⟩ := hP
          obtain ⟨v103, hP⟩ := hP
          obtain ⟨v104, hP⟩ := hP
          obtain ⟨v105, hP⟩ := hP
          obtain ⟨v106, hP⟩ := hP
          obtain ⟨v107, hP⟩ := hP
          obtain ⟨v108, hP⟩ := hP
          obtain ⟨v109, hP⟩ := hP
          obtain ⟨v110, hP⟩ := hP
          obtain ⟨v111, hP⟩ := hP
          obtain ⟨v112, hP⟩ := hP
          obtain ⟨v113, hP⟩ := hP
          obtain ⟨v114, hP⟩ := hP
          obtain ⟨v115, hP⟩ := hP
          obtain ⟨v116, hP⟩ := hP
          obtain ⟨v117, hP⟩ := hP
          obtain ⟨v118, hP⟩ := hP
          obtain ⟨v119, hP⟩ := hP
          obtain ⟨v120, hP⟩ := hP
          obtain ⟨v121, hP⟩ := hP
          obtain ⟨v122, hP⟩ := hP
          obtain ⟨v123, hP⟩ := hP
          obtain ⟨v124, hP⟩ := hP
          obtain ⟨v125, hP⟩ := hP
          obtain ⟨v126, hP⟩ := hP
          obtain ⟨v127, hP⟩ := hP
          obtain ⟨v128, hP⟩ := hP
          obtain ⟨v129, hP⟩ := hP
          obtain ⟨v130, hP⟩ := hP
          obtain ⟨v131, hP⟩ := hP
          obtain ⟨v132, hP⟩ := hP
          obtain ⟨v133, hP⟩ := hP
          obtain ⟨v134, hP⟩ := hP
          obtain ⟨v135, hP⟩ := hP
          obtain ⟨v136, hP⟩ := hP
          obtain ⟨v137, hP⟩ := hP
          obtain ⟨v138, hP⟩ := hP
          obtain ⟨v139, hP⟩ := hP
          obtain ⟨v140, hP⟩ := hP
          obtain ⟨v141, hP⟩ := hP
          obtain ⟨v142, hP⟩ := hP
          obtain ⟨v143, hP⟩ := hP
          obtain ⟨v144, hP⟩ := hP
          obtain ⟨v145, hP⟩ := hP
          obtain ⟨v146, hP⟩ := hP
          obtain ⟨v147, hP⟩ := hP
          obtain ⟨v148, hP⟩ := hP
          obtain ⟨v149, hP⟩ := hP
          obtain ⟨v150, hP⟩ := hP
          obtain ⟨v151, hP⟩ := hP
          obtain ⟨v152, hP⟩ := hP
          obtain ⟨v153, hP⟩ := hP
          obtain ⟨v154, hP⟩ := hP
          obtain ⟨v155, hP⟩ := hP
          obtain ⟨v156, hP⟩ := hP
          obtain ⟨v157, hP⟩ := hP
          obtain ⟨v158, hP⟩ := hP
          obtain ⟨v159, hP⟩ := hP
          obtain ⟨v160, hP⟩ := hP
          obtain ⟨v161, hP⟩ := hP
          obtain ⟨v162, hP⟩ := hP
          obtain ⟨v163, hP⟩ := hP
          obtain ⟨v164, hP⟩ := hP
          obtain ⟨v165, hP⟩ := hP
          obtain ⟨v166, hP⟩ := hP
          obtain ⟨v167, hP⟩ := hP
          obtain ⟨v168, hP⟩ := hP
          obtain ⟨v169, hP⟩ := hP
          obtain ⟨v170, hP⟩ := hP
          obtain ⟨v171, hP⟩ := hP
          obtain ⟨v172, hP⟩ := hP
          obtain ⟨v173, hP⟩ := hP
          obtain ⟨v174, hP⟩ := hP
          obtain ⟨v175, hP⟩ := hP
          obtain ⟨v176, hP⟩ := hP
          obtain ⟨v177, hP⟩ := hP
          obtain ⟨v178, hP⟩ := hP
          obtain ⟨v179, hP⟩ := hP
          obtain ⟨v180, hP⟩ := hP
          obtain ⟨v181, hP⟩ := hP
          obtain ⟨v182, hP⟩ := hP
          obtain ⟨v183, hP⟩ := hP
          obtain ⟨v184, hP⟩ := hP
          obtain ⟨v185, hP⟩ := hP
          obtain ⟨v186, hP⟩ := hP
          obtain ⟨v187, hP⟩ := hP
          obtain ⟨v188, hP⟩ := hP
          obtain ⟨v189, hP⟩ := hP
          obtain ⟨v190, hP⟩ := hP
          obtain ⟨v191, hP⟩ := hP
          obtain ⟨v192, hP⟩ := hP
          obtain ⟨v193, hP⟩ := hP
          obtain ⟨v194, hP⟩ := hP
          obtain ⟨v195, hP⟩ := hP
          obtain ⟨v196, hP⟩ := hP
          obtain ⟨v197, hP⟩ := hP
          obtain ⟨v198, hP⟩ := hP
          obtain ⟨v199, hP⟩ := hP
          obtain ⟨v200, hP⟩ := hP
          obtain ⟨v201, hP⟩ := hP
          obtain ⟨v202, hP⟩ := hP
          obtain ⟨v203, hP⟩ := hP
          obtain ⟨v204, hP⟩ := hP
          obtain ⟨v205, hP⟩ := hP
          obtain ⟨v206, hP⟩ := hP
          obtain ⟨v207, hP⟩ := hP
          obtain ⟨v208, hP⟩ := hP
          obtain ⟨v209, hP⟩ := hP
          obtain ⟨v210, hP⟩ := hP
          obtain ⟨v211, hP⟩ := hP
          obtain ⟨v212, hP⟩ := hP
          obtain ⟨v213, hP⟩ := hP
          obtain ⟨v214, hP⟩ := hP
          obtain ⟨v215, hP⟩ := hP
          obtain ⟨v216, hP⟩ := hP
          obtain ⟨v217, hP⟩ := hP
          obtain ⟨v218, hP⟩ := hP
          obtain ⟨v219, hP⟩ := hP
          obtain ⟨v220, hP⟩ := hP
          obtain ⟨v221, hP⟩ := hP
          obtain ⟨v222, hP⟩ := hP
          obtain ⟨v223, hP⟩ := hP
          obtain ⟨v224, hP⟩ := hP
          obtain ⟨v225, hP⟩ := hP
          obtain ⟨v226, hP⟩ := hP
          obtain ⟨v227, hP⟩ := hP
          obtain ⟨v228, hP⟩ := hP
          obtain ⟨v229, hP⟩ := hP
          obtain ⟨v230, hP⟩ := hP
          obtain ⟨v231, hP⟩ := hP
          obtain ⟨v232, hP⟩ := hP
          obtain ⟨v233, hP⟩ := hP
          obtain ⟨v234, hP⟩ := hP
          obtain ⟨v235, hP⟩ := hP
          obtain ⟨v236, hP⟩ := hP
          obtain ⟨v237, hP⟩ := hP
          obtain ⟨v238, hP⟩ := hP
          obtain ⟨v239, hP⟩ := hP
          obtain ⟨v240, hP⟩ := hP
          obtain ⟨v241, hP⟩ := hP
          obtain ⟨v242, hP⟩ := hP
          obtain ⟨v243, hP⟩ := hP
          obtain ⟨v244, hP⟩ := hP
          obtain ⟨v245, hP⟩ := hP
          obtain ⟨v246, hP⟩ := hP
          obtain ⟨v247, hP⟩ := hP
          obtain ⟨v248, hP⟩ := hP
          obtain ⟨v249, hP⟩ := hP
          obtain ⟨v250, hP⟩ := hP
          obtain ⟨v251, hP⟩ := hP
          obtain ⟨v252, hP⟩ := hP
          obtain ⟨v253, hP⟩ := hP
          obtain ⟨v254, hP⟩ := hP
          obtain ⟨v255, hP⟩ := hP
          obtain ⟨v256, hP⟩ := hP
          obtain ⟨v257, hP⟩ := hP
          obtain ⟨v258, hP⟩ := hP
          obtain ⟨v259, hP⟩ := hP
          obtain ⟨v260, hP⟩ := hP
          obtain ⟨v261, hP⟩ := hP
          obtain ⟨v262, hP⟩ := hP
          obtain ⟨v263, hP⟩ := hP
          obtain ⟨v264, hP⟩ := hP
          obtain ⟨v265, hP⟩ := hP
          obtain ⟨v266, hP⟩ := hP
          obtain ⟨v267, hP⟩ := hP
          obtain ⟨v268, hP⟩ := hP
          obtain ⟨v269, hP⟩ := hP
          obtain ⟨v270, hP⟩ := hP
          obtain ⟨v271, hP⟩ := hP
          obtain ⟨v272, hP⟩ := hP
          obtain ⟨v273, hP⟩ := hP
          obtain ⟨v274, hP⟩ := hP
          obtain ⟨v275, hP⟩ := hP
          obtain ⟨v276, hP⟩ := hP
          obtain ⟨v277, hP⟩ := hP
          obtain ⟨v278, hP⟩ := hP
          obtain ⟨v279, hP⟩ := hP
          obtain ⟨v280, hP⟩ := hP
          obtain ⟨v281, hP⟩ := hP
          obtain ⟨v282, hP⟩ := hP
          obtain ⟨v283, hP⟩ := hP
          obtain ⟨v284, hP⟩ := hP
          obtain ⟨v285, hP⟩ := hP
          obtain ⟨v286, hP⟩ := hP
          obtain ⟨v287, hP⟩ := hP
          obtain ⟨v288, hP⟩ := hP
          obtain ⟨v289, hP⟩ := hP
          obtain ⟨v290, hP⟩ := hP
          obtain ⟨v291, hP⟩ := hP
          obtain ⟨v292, hP⟩ := hP
          obtain ⟨v293, hP⟩ := hP
          obtain ⟨v294, hP⟩ := hP
          obtain ⟨v295, hP⟩ := hP
          obtain ⟨v296, hP⟩ := hP
          obtain ⟨v297, hP⟩ := hP
          obtain ⟨v298, hP⟩ := hP
          obtain ⟨v299, hP⟩ := hP
          obtain ⟨v300, hP⟩ := hP
          obtain ⟨G2, W2, s2, RD2, ra2, rc2, rfl, S2⟩ := hP
          have HS2 := Lib.hid S2
          clear S2 HDV HbV Hop
          go_wp2_with fail
          go_roundw
          case rel => exact ⟨k + 1, G2, W2, s2, RD2, _, _, hlt, h150, by go_num, rfl, HS2.out⟩
          case measure => simp [intOf]; omega
        · have hgo2 : (¬ k < len2) ∨ (k < len2 ∧ decide ((k : Int) < 150) = false) := by
            by_cases h : k < len2
            · exact Or.inr ⟨h, decide_eq_false (fun h' => hgo ⟨h, by omega⟩)⟩
            · exact Or.inl h
          clear hgo
          rcases hgo2 with h1 | ⟨h1, h2⟩
          all_goals
            go_upto_block 5 with fail
            refine wp_mono (sw_end hk150 HS.out _ _ _ _ _ _ _ _ _ _ _ _ _ _ _ _ _ _ _ _ _ _ _ _ _ _ _ _ _ _ _ _ _ _ _ _ _ _ _ _ _ _ _ _ _ _ _ _ _ _ _ _ _ _ _ _ _ _ _ _ _ _ _ _ _ _ _ _ _ _ _ _ _ _ _ _ _ _ _ _ _ _ _ _ _ _ _ _ _ _ _ _ _ _ _ _ _ _ _ _ _ _ _ _ _ _ _ _ _ _ _ _ _ _ _ _ _ _ _ _ _ _ _ _ _ _ _ _ _ _ _ _ _ _ _ _ _ _ _ _ _ _ _ _ _ _ _ _ _ _ _ _ _ _ _ _ _ _ _ _ _ _ _ _ _ _ _ _ _ _ _ _ _ _ _ _ _ _ _ _ _ _ _ _ _ _ _ _ _ _ _ _ _ _ _ _ _ _ _ _ _ _ _ _ _ _ _ _ _ _ _ _ _ _ _ _ _ _ _ _ _ _ _ _ _ _ _ _ _ _ _ _ _ _ _ _ _ _ _ _ _ _ _ _ _ _ _ _ _ _ _ _ _ _ _ _ _ _ _ _ _ _ _ _ _ _ _ _ _ _ _ _ _ _ _ _ _ _ _ _ _ _ _ _ _ _ _ _ _ _ _ _ _ _ _ _ _ _ _ _ _ _ _ _ _ _ _ _ _ _ _ _ _ _ _ _ _ _ _ _ _ _ _ _ _ _ _ _ _ _ _ _ _ _ _ _ _ _ _ _) ?_
            intro e a' w' hP
            unfold SwEP at hP
            obtain ⟨rfl, hP⟩ := hP
            obtain ⟨v6, hP⟩ := hP
            obtain ⟨v20, hP⟩ := hP
            obtain ⟨v21, hP⟩ := hP
            obtain ⟨v22, hP⟩ := hP
            obtain ⟨v23, hP⟩ := hP
            obtain ⟨v24, hP⟩ := hP
            obtain ⟨v25, hP⟩ := hP
            obtain ⟨v301, hP⟩ := hP
            obtain ⟨v302, hP⟩ := hP
            obtain ⟨v303, hP⟩ := hP
            obtain ⟨v304, hP⟩ := hP
            obtain ⟨v305, hP⟩ := hP
            obtain ⟨v306, hP⟩ := hP
            obtain ⟨v307, hP⟩ := hP
            obtain ⟨v308, hP⟩ := hP
            obtain ⟨v309, hP⟩ := hP
            obtain ⟨v310, hP⟩ := hP
            obtain ⟨v311, hP⟩ := hP
            obtain ⟨v312, hP⟩ := hP
            obtain ⟨v313, hP⟩ := hP
            obtain ⟨v314, hP⟩ := hP
            obtain ⟨v315, hP⟩ := hP
            obtain ⟨v316, hP⟩ := hP
            obtain ⟨v317, hP⟩ := hP
            obtain ⟨v318, hP⟩ := hP
            obtain ⟨v319, hP⟩ := hP
            obtain ⟨v320, hP⟩ := hP
            obtain ⟨v321, hP⟩ := hP
            obtain ⟨v322, hP⟩ := hP
            obtain ⟨v323, hP⟩ := hP
            obtain ⟨v324, hP⟩ := hP
            obtain ⟨v325, hP⟩ := hP
            obtain ⟨v326, hP⟩ := hP
            obtain ⟨v327, hP⟩ := hP
            obtain ⟨v328, hP⟩ := hP
            obtain ⟨v329, hP⟩ := hP
            obtain ⟨v330, hP⟩ := hP
            obtain ⟨v331, hP⟩ := hP
            obtain ⟨v332, hP⟩ := hP
            obtain ⟨v333, hP⟩ := hP
            obtain ⟨v334, hP⟩ := hP
            obtain ⟨v335, hP⟩ := hP
            obtain ⟨v336, hP⟩ := hP
            obtain ⟨v337, hP⟩ := hP
            obtain ⟨v338, hP⟩ := hP
            obtain ⟨v339, hP⟩ := hP
            obtain ⟨v340, hP⟩ := hP
            obtain ⟨v341, hP⟩ := hP
            obtain ⟨v342, hP⟩ := hP
            obtain ⟨v343, hP⟩ := hP
            obtain ⟨rfl, hk⟩ := hP
            go_wp2_with fail
            go_ret
            exact ⟨rfl, hk.below (fun _ _ h => h)⟩
end Go.Proofs.Ytieoejilppgebaa
