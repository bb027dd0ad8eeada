/- The walk of LruNil. -/
import Derived.Test.YtgbcjnejlelndaaLruR
namespace Go.Proofs.Ytgbcjnejlelndaa
open Go Go.RowKit Go.Maps

set_option maxRecDepth 100000 in
set_option maxHeartbeats 2000000 in
theorem nil_walk (k : ByteArray) (n : Int) (w : World) :
    Calls Try.prog 8 #[.string k, .int .i64 n] w fun e w' => e = .returned (.bool true) ∧ Below w.heap.size w w' := by
  go_enter Try.func8, Try.ntmps8
  go_wp2_with fail
  refine (awake_any w).mono ?_
  rintro _ w1 ⟨rfl, k1⟩
  go_wp2_with (first
    | (go_at_call 12; refine (put_nil k n n _).mono ?_; rintro _ w2 ⟨rfl, rfl⟩)
    | (go_at_call 18; refine (reserve_nil n _).mono ?_; rintro _ w3 ⟨rfl, k3⟩)
    | (go_at_call 11; refine (get_nil k _).mono ?_; rintro _ w4 ⟨rfl, rfl⟩)
    | (go_at_call 15; refine (peek_nil k _).mono ?_; rintro _ w5 ⟨rfl, rfl⟩)
    | (go_at_call 19; refine (release_nil n _).mono ?_; rintro _ w6 ⟨rfl, rfl⟩)
    | (go_at_call 26; refine (clear_nil _).mono ?_; rintro _ w7 ⟨rfl, rfl⟩)
    | (go_at_call 17; refine (drop_nil k _).mono ?_; rintro _ w8 ⟨rfl, rfl⟩)
    | (go_at_call 16; refine (used_nil _).mono ?_; rintro _ w9 ⟨rfl, rfl⟩)
    | (go_at_call 20; refine (reserved_nil _).mono ?_; rintro _ w10 ⟨rfl, rfl⟩)
    | (go_at_call 14; refine (keys_nil _).mono ?_; rintro _ w11 ⟨rfl, rfl⟩))
  go_ret
  exact ⟨rfl, (k1.trans k3).below (fun _ _ h => h)⟩
end Go.Proofs.Ytgbcjnejlelndaa
