/-
  The walk of ligaturelaw7.CellGone: it answers true.
-/
import Derived.Test.YtdgojfjaooindaaKnown7
namespace Go.Proofs.Ytdgojfjaooindaa
open Go.RowKit Go.Proofs.Lig

set_option maxRecDepth 100000 in
set_option maxHeartbeats 2000000 in
theorem gone_walk (v x : Int) (w : World) : Calls Try.prog 11 #[.int .i64 v, .int .i64 x] w fun e w' => e = .returned (.bool true) ∧ Below w.heap.size w w' := by
  have g1 := hid (Clk.good_new.began)
  have g3 := hid ((((Clk.good_new.began).committed 1).began).began)
  have g4 := hid ((((((Clk.good_new.began).committed 1).began).began).committed 3).began)
  go_enter Try.func11, Try.ntmps11
  go_wp2_with fail
  refine (new_N w).mono ?_
  rintro e w1 ⟨rfl, h1, _⟩
  go_wp2_with fail
  refine (new_C h1).mono ?_
  rintro e w2 ⟨rfl, h⟩
  have hX : w1.heap.size = w1.heap.size := rfl
  generalize w1.heap.size = X at h ⊢
  clear h1 hX
  go_wp2_with fail
  refine (begin_C h (by decide) (by decide) 1 (by decide)).mono ?_
  rintro e w3 ⟨rfl, h3⟩
  clear h
  go_wp2_with fail
  refine (write_C h3 g1.out 1 v false (by rfl) (Nat.le_of_ble_eq_true rfl)).mono ?_
  rintro e w4 ⟨rfl, h4⟩
  clear h3
  go_wp2_with fail
  refine (commit_C h4 1 (by decide) (by decide)).mono ?_
  rintro e w5 ⟨rfl, h5⟩
  clear h4
  go_wp2_with fail
  refine (begin_C h5 (by decide) (by decide) 2 (by decide)).mono ?_
  rintro e w6 ⟨rfl, h6⟩
  clear h5
  go_wp2_with fail
  refine (begin_C h6 (by decide) (by decide) 3 (by decide)).mono ?_
  rintro e w7 ⟨rfl, h7⟩
  clear h6
  go_wp2_with fail
  refine (write_C h7 g3.out 3 0 true (by rfl) (Nat.le_of_ble_eq_true rfl)).mono ?_
  rintro e w8 ⟨rfl, h8⟩
  clear h7
  go_wp2_with fail
  refine (read_C h8 g3.out 3 0 false (by rfl) (by rfl)).mono ?_
  rintro e w9 ⟨rfl, h9⟩
  clear h8
  go_wp2_with fail
  refine (commit_C h9 3 (by decide) (by decide)).mono ?_
  rintro e w10 ⟨rfl, h10⟩
  clear h9
  go_wp2_with fail
  refine (read_C h10 (g3.out.committed 3) 2 v true (by rfl) (by rfl)).mono ?_
  rintro e w11 ⟨rfl, h11⟩
  clear h10
  go_wp2_with fail
  refine (begin_C h11 (by decide) (by decide) 4 (by decide)).mono ?_
  rintro e w12 ⟨rfl, h12⟩
  clear h11
  go_wp2_with fail
  refine (read_C h12 g4.out 4 0 false (by rfl) (by rfl)).mono ?_
  rintro e w13 ⟨rfl, h13⟩
  clear h12
  go_wp2_with fail
  refine (write_C h13 g4.out 4 x false (by rfl) (Nat.le_of_ble_eq_true rfl)).mono ?_
  rintro e w14 ⟨rfl, h14⟩
  clear h13
  go_wp2_with fail
  refine (read_C h14 g4.out 4 x true (by rfl) (by rfl)).mono ?_
  rintro e w15 ⟨rfl, h15⟩
  clear h14
  go_wp2_with fail
  refine (write_no_C h15 g4.out 2 x false (by rfl)).mono ?_
  rintro e w16 ⟨rfl, h16⟩
  clear h15
  go_wp2_with fail
  refine (known7 _).mono ?_
  rintro e w17 ⟨rfl, b⟩
  go_wp2_with fail
  go_ret
  exact ⟨rfl, h16.clk.below.trans (b.mono h16.size)⟩
end Go.Proofs.Ytdgojfjaooindaa
