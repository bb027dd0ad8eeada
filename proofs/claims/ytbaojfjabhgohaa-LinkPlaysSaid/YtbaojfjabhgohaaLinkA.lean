/- The document's example of link, asked. -/
import Derived.Test.YtbaojfjabhgohaaLinkR
import Derived.Lib.SlBytesConst
import Derived.Laws.BytesArg
import Derived.Laws.IdiomStrings
namespace Go.Proofs.Ytbaojfjabhgohaa
open Go Go.RowKit Go.Maps

theorem SN_out {w : World} {B nb : Nat} {a : Option Addr} {cap : Nat} {room sent : Int} {N : List HE} (T : Net w B nb a cap room sent N) (hnb : B ≤ nb) : ∀ k, SN nb (.slice a N.length cap) k → B ≤ k := by
  intro k hk
  rcases hk with rfl | hk
  · exact hnb
  · exact T.row.fresh k hk

theorem Rd.one {w : World} {b : Nat} {c : UInt8} {e : TypeId} {f : Nat × Nat} (h : w.heap[b]? = some (.cells #[.int .u8 c.toNat] e f)) : Rd w (.slice (some ⟨b, 0, none⟩) 1 1) [c] := by
  refine ⟨some ⟨b, 0, none⟩, 1, rfl, Nat.le_refl _, fun j x hj => ⟨_, rfl, ?_⟩⟩
  have hadd : (⟨b, 0, none⟩ : Addr).add j = ⟨b, j, none⟩ := by unfold Addr.add; split <;> simp_all
  rw [hadd, blk_cell h]
  cases j with
  | zero => simp at hj; simp [hj]
  | succ j => simp at hj

theorem Rd.nil (w : World) : Rd w (.slice none 0 0) [] := ⟨none, 0, rfl, Nat.le_refl _, fun j b h => by simp at h⟩

/-- 'string(b)' of a slice that reads as the bytes l. -/
theorem Rd.str {w : World} {v : Value} {l : List UInt8} (h : Rd w v l) : (convert 27 9 v).run Try.prog w = .ok (.string ⟨l.toArray⟩) w := by
  obtain ⟨a, c, rfl, hc, hr⟩ := h
  cases a with
  | none =>
    have hl : l = [] := by
      cases l with
      | nil => rfl
      | cons x l => obtain ⟨ad, h1, _⟩ := hr 0 x rfl; cases h1
    subst hl
    exact run_convert_bytes_nil w 27 5 Try.underlying27 Try.underlying5 _ _ 9 Try.underlying9
  | some ad =>
    exact run_convert_bytes_back w 27 9 5 ad c l Try.underlying27 Try.underlying5 Try.underlying9 (fun j hj => by
      obtain ⟨ad', h1, h2⟩ := hr j l[j] (List.getElem?_eq_getElem hj)
      cases h1
      exact h2)

theorem run_append_rowed_none {α : Type} (w : World) {base : Nat} (t ty e : TypeId) (i : TypeInfo) {size : Nat} (ht : Try.prog.underlying t = some (.slice e)) (hi : Try.prog.info? e = some i) {enc : α → List Value} {v : Value} {N : List α} (hown : Row w base e size enc v N) (c : Nat) :
    (Builtin.append_ #[t, t] ty #[v, .slice none 0 c]).run Try.prog w = .ok v w := by
  rcases hown.2 with ⟨rfl, hn⟩ | ⟨g, cap, cur, rfl, hbg, hg, hnc, hcm, hcs, htake⟩
  · simp [Builtin.append_, run_underlying ht, sizeOf, typeInfo, hi, Builtin.lenOf, Builtin.firstCells]
  · simp [Builtin.append_, run_underlying ht, sizeOf, typeInfo, hi, Builtin.lenOf, Builtin.firstCells, hnc, storeCells]

/-- 's = append(s, x...)', x a slice that reads as the bytes M, nil or not. -/
theorem wpList_row_rd {w : World} {ops : Array Oper} {o : Oper} {a : Act} {Q : Exit → Act → World → Prop} {rest : List Oper} (hgd : o.guard = none) (s x : Operand) (ho : o.op = .call { callee := .builtin .append, args := #[s, x], argTypes := #[27, 27] })
    {B : Nat} {v : Value} {N : List UInt8} (hs : a.eval s = v) (hown : Row w B 5 1 cU v N) {u : Value} {M : List UInt8} (hx : a.eval x = u) (hr : Rd w u M)
    (hbytes : N.length + M.length ≤ 140737488355328) (hbase : B ≤ w.heap.size) {N' : List UInt8} (hN' : N ++ M = N')
    (h : ∀ a' cap' w', Row w' B 5 1 cU (.slice a' N'.length cap') N' → Keep (fun g => v.ownBlock = some g) w w' → wpList Try.prog ops Q rest (a.put o.dst (.slice a' N'.length cap')) w') : wpList Try.prog ops Q (o :: rest) a w := by
  obtain ⟨ad, c, rfl, hc, hrr⟩ := hr
  cases ad with
  | some ad =>
    refine wpList_row_list hgd s x 27 ho Try.underlying27 info5' (by kernel_rfl) (by decide) (by decide) hs hown cU_len cU_one M hx rfl ?_ (by omega) hbase hN' h
    intro j y hj
    rw [flat_cU, List.getElem?_map] at hj
    cases hb : M[j]? with
    | none => rw [hb] at hj; cases hj
    | some b =>
      rw [hb] at hj
      cases hj
      obtain ⟨ad', h1, h2⟩ := hrr j b hb
      cases h1
      exact h2
  | none =>
    have hM : M = [] := by
      cases M with
      | nil => rfl
      | cons y M => obtain ⟨ad, h1, _⟩ := hrr 0 y rfl; cases h1
    subst hM
    rw [List.append_nil] at hN'
    subst hN'
    obtain ⟨i, hi, _⟩ := info_parts info5'
    obtain ⟨a', c', rfl⟩ := hown.shape
    have hrun := run_append_rowed_none w 27 o.type 5 i Try.underlying27 hi hown c
    refine wpList_plain hgd fun K hK => ?_
    unfold Oper.wp
    simp [execOp, ho, resolve, invoke, builtin, hs, hx, hrun, Result.andThen]
    exact hK _ _ (h a' c' w hown (Keep.refl _ _))

set_option maxHeartbeats 4000000 in
theorem awake_any (w : World) : Calls Try.prog 7 #[] w fun e w' => e = .returned (.bool true) ∧ Keep NoB w w' := by
  have kc := fun (w : World) (C : Array Value) (n c : Nat) => Lib.run_convert_bytes_const (P := Try.prog) w 27 5 C n c Try.underlying27 Try.underlying5
  go_enter Try.func7, Try.ntmps7
  go_wp2_with fail
  refine (new_any 2 _ (Nat.le_refl _)).mono ?_
  rintro _ w1 ⟨rfl, T1, k1, s1⟩
  have S1 := Lib.hid s1
  have l1 : w.heap.size < w1.heap.size := by omega
  clear s1
  go_wp2_with fail
  generalize hnb : w.heap.size = nb at T1 l1 S1
  have HNB := Lib.hid hnb
  have l0 : w.heap.size ≤ nb := by omega
  clear hnb
  have T1' := T1.keep0 ((Keep.refl NoB w1).alloc (.cells #[.int .u8 97] 5 (1, 2)))
  have K1 : Keep NoB w (w1.alloc (.cells #[.int .u8 97] 5 (1, 2))) := k1.alloc _
  refine (send_ok nb nb none 0 2 0 [] 1 2 _ [97] _ T1' (by simp; omega) (Rd.one (c := 97) (blk_new w1 _)) (by decide) (by simp) (by simp) (by omega) (by omega)).mono ?_
  rintro _ w2 ⟨a2, c2, g2, rfl, T2, k2⟩
  have K2 : Keep NoB w w2 := K1.trans' k2 (fun i hi e => by have := SN_out T1 (Nat.le_refl _) i e; omega)
  have s2 := k2.size
  simp at s2
  clear k2 T1 T1' K1 k1
  go_wp2_with fail
  have T2' := T2.keep0 ((Keep.refl NoB w2).alloc (.cells #[.int .u8 98] 5 (1, 2)))
  have K2' : Keep NoB w (w2.alloc (.cells #[.int .u8 98] 5 (1, 2))) := K2.alloc _
  refine (send_ok nb nb a2 c2 2 1 _ 1 3 _ [98] _ T2' (by simp; omega) (Rd.one (c := 98) (blk_new w2 _)) (by decide) (by simp) (by simp) (by omega) (by omega)).mono ?_
  rintro _ w3 ⟨a3, c3, g3, rfl, T3, k3⟩
  have K3 : Keep NoB w w3 := K2'.trans' k3 (fun i hi e => by have := SN_out T2 (Nat.le_refl _) i e; omega)
  have s3 := k3.size
  simp at s3
  clear k3 T2 T2' K2 K2'
  go_wp2_with fail
  refine (send_full nb nb a3 c3 2 2 _ 1 2 _ _ T3 (by simp)).mono ?_
  rintro _ w4 ⟨rfl, k4⟩
  have T4 := T3.keep0 k4
  have K4 : Keep NoB w w4 := K3.trans k4
  have s4 := k4.size
  clear k4 T3 K3
  go_wp2_with fail
  refine (take_in nb nb a3 c3 2 2 _ 0 ⟨1, 2, some ⟨g2, 0, none⟩, 1, false, [97]⟩ _ T4 (by omega) rfl (by simp)).mono ?_
  rintro _ w5 ⟨a5, c5, g5, rfl, hg5, R5, T5, k5⟩
  have K5 : Keep NoB w w5 := K4.trans' k5 (fun i hi e => by have := SN_out T4 (Nat.le_refl _) i e; omega)
  have s5 := k5.size
  have hstr : (convert 27 9 (.slice (some ⟨g5, 0, none⟩) 1 1)).run Try.prog (w5.alloc (.cells #[.int .i64 1, .int .i64 2, .slice (some ⟨g5, 0, none⟩) 1 1] 32)) = .ok (.string ⟨#[97]⟩) (w5.alloc (.cells #[.int .i64 1, .int .i64 2, .slice (some ⟨g5, 0, none⟩) 1 1] 32)) := (R5.alloc _).rd.str
  have T5' : Net w5 nb nb a5 c5 2 2 [⟨1, 3, some ⟨g3, 0, none⟩, 1, false, [98]⟩] := T5
  clear k5 T4 K4 T5
  go_wp2_with fail
  refine (double_ok nb nb a5 c5 2 2 _ 0 _ _ (T5'.keep0 (by (repeat (with_reducible first | exact Keep.refl _ _ | assumption | refine Keep.alloc ?_ _ | refine Keep.drewN ?_ _ | refine Keep.drew ?_ | refine Keep.setCell ?_ (by first | (left; simp; done) | (left; simp; omega) | (right; simp [NoB, OneB, TwoB]; done)) _)))) (by simp; omega) rfl (by simp) (by simp)).mono ?_
  rintro _ w6 ⟨a6, c6, g6, rfl, T6, k6⟩
  have K6 : Keep NoB w w6 := (K5.alloc _).trans' k6 (fun i hi e => by have := SN_out T5' (Nat.le_refl _) i e; omega)
  have s6 := k6.size
  simp at s6
  clear k6 T5' K5 hstr
  go_wp2_with fail
  refine (drop_any nb nb a6 c6 2 2 _ 3 _ T6 (by omega) (by simp) 2 rfl).mono ?_
  rintro _ w7 ⟨a7, c7, rfl, T7, k7⟩
  have K7 : Keep NoB w w7 := K6.trans' k7 (fun i hi e => by have : i = nb := e; omega)
  clear k7 T6 K6
  go_wp2_with fail
  refine (sent_any nb nb a7 c7 2 2 _ _ T7).mono ?_
  rintro _ _ ⟨rfl, rfl⟩
  go_wp2
  go_ret
  exact ⟨rfl, K7⟩
end Go.Proofs.Ytbaojfjabhgohaa
