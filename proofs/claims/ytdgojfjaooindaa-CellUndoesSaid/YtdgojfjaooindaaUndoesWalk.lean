/-
  The walk of ligaturelaw7.CellUndoes: it answers true.
-/
import Derived.Test.YtdgojfjaooindaaCelK
import Derived.Test.YtdgojfjaooindaaKnown7
namespace Go.Proofs.Ytdgojfjaooindaa
open Go.RowKit Go.Proofs.Lig

set_option maxRecDepth 100000 in
set_option maxHeartbeats 2000000 in
theorem undoes_walk (v x : Int) (tw : Bool) (w : World) : Calls Try.prog 14 #[.int .i64 v, .int .i64 x, .bool tw] w fun e w' => e = .returned (.bool true) ∧ Below w.heap.size w w' := by
  have g1 := hid (Clk.good_new.began)
  have g2 := hid (((Clk.good_new.began).committed 1).began)
  have g3 := hid ((((Clk.good_new.began).committed 1).began).dropped 2)
  cases tw
  all_goals
    go_enter Try.func14, Try.ntmps14
    go_wp2_with fail
    refine (new_N w).mono ?_
    rintro e w1 ⟨rfl, h1, _⟩
    go_wp2_with fail
    refine (new_C h1).mono ?_
    rintro e w2 ⟨rfl, h⟩
    have hX : w1.heap.size = w1.heap.size := rfl
    generalize w1.heap.size = X at h ⊢
    clear h1 hX
    go_wp2_with fail
    refine (begin_C h (by decide) (by decide) 1 (by decide)).mono ?_
    rintro e w3 ⟨rfl, h3⟩
    clear h
    go_wp2_with fail
    refine (write_C h3 g1.out 1 v false (by rfl) (Nat.le_of_ble_eq_true rfl)).mono ?_
    rintro e w4 ⟨rfl, h4⟩
    clear h3
    go_wp2_with fail
    refine (commit_C h4 1 (by decide) (by decide)).mono ?_
    rintro e w5 ⟨rfl, h5⟩
    clear h4
    go_wp2_with fail
    refine (begin_C h5 (by decide) (by decide) 2 (by decide)).mono ?_
    rintro e w6 ⟨rfl, h6⟩
    clear h5
    go_wp2_with fail
  · refine (write_C h6 g2.out 2 x false (by rfl) (Nat.le_of_ble_eq_true rfl)).mono ?_
    rintro e w7 ⟨rfl, h7⟩
    clear h6
    go_wp2_with fail
    refine (len_C h7 2 (by rfl)).mono ?_
    rintro e w' ⟨rfl, rfl⟩
    go_wp2_with fail
    refine (abort_C h7 2 (by decide) g2.out).mono ?_
    rintro e w8 ⟨rfl, h8⟩
    clear h7
    go_wp2_with fail
    refine (undo_C h8 2).mono ?_
    rintro e w9 ⟨⟨u1, rfl⟩, h9⟩
    clear h8
    go_wp2_with fail
    refine (undo_C h9 2).mono ?_
    rintro e w10 ⟨⟨u2, rfl⟩, h10⟩
    clear h9
    go_wp2_with fail
    refine (begin_C h10 (by decide) (by decide) 3 (by decide)).mono ?_
    rintro e w11 ⟨rfl, h11⟩
    clear h10
    go_wp2_with fail
    refine (read_C h11 g3.out.began 3 v true (by rfl) (by rfl)).mono ?_
    rintro e w12 ⟨rfl, h12⟩
    clear h11
    go_wp2_with fail
    refine (len_C h12 1 (by rfl)).mono ?_
    rintro e w' ⟨rfl, rfl⟩
    go_wp2_with fail
    refine (check_C h12 g3.out.began 3 0 (by rfl)).mono ?_
    rintro e w13 ⟨rfl, hb13⟩
    have h13 := h12.step hb13
    clear h12
    go_wp2_with fail
    refine (known7 _).mono ?_
    rintro e w14 ⟨rfl, hb14⟩
    go_wp2_with fail
    go_ret
    exact ⟨rfl, h13.clk.below.trans (hb14.mono h13.size)⟩
  · refine (write_C h6 g2.out 2 x true (by rfl) (Nat.le_of_ble_eq_true rfl)).mono ?_
    rintro e w7 ⟨rfl, h7⟩
    clear h6
    go_wp2_with fail
    refine (write_C h7 g2.out 2 _ false (by rfl) (Nat.le_of_ble_eq_true rfl)).mono ?_
    rintro e w7b ⟨rfl, h7b⟩
    clear h7
    have h7 := h7b
    clear h7b
    go_wp2_with fail
    refine (len_C h7 2 (by rfl)).mono ?_
    rintro e w' ⟨rfl, rfl⟩
    go_wp2_with fail
    refine (abort_C h7 2 (by decide) g2.out).mono ?_
    rintro e w8 ⟨rfl, h8⟩
    clear h7
    go_wp2_with fail
    refine (undo_C h8 2).mono ?_
    rintro e w9 ⟨⟨u1, rfl⟩, h9⟩
    clear h8
    go_wp2_with fail
    refine (undo_C h9 2).mono ?_
    rintro e w10 ⟨⟨u2, rfl⟩, h10⟩
    clear h9
    go_wp2_with fail
    refine (begin_C h10 (by decide) (by decide) 3 (by decide)).mono ?_
    rintro e w11 ⟨rfl, h11⟩
    clear h10
    go_wp2_with fail
    refine (read_C h11 g3.out.began 3 v true (by rfl) (by rfl)).mono ?_
    rintro e w12 ⟨rfl, h12⟩
    clear h11
    go_wp2_with fail
    refine (len_C h12 1 (by rfl)).mono ?_
    rintro e w' ⟨rfl, rfl⟩
    go_wp2_with fail
    refine (check_C h12 g3.out.began 3 0 (by rfl)).mono ?_
    rintro e w13 ⟨rfl, hb13⟩
    have h13 := h12.step hb13
    clear h12
    go_wp2_with fail
    refine (known7 _).mono ?_
    rintro e w14 ⟨rfl, hb14⟩
    go_wp2_with fail
    go_ret
    exact ⟨rfl, h13.clk.below.trans (hb14.mono h13.size)⟩
end Go.Proofs.Ytdgojfjaooindaa
