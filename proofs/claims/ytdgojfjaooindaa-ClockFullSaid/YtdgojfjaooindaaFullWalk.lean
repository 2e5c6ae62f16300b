/-
  The walk of the law ClockFull.
-/
import Derived.Test.YtdgojfjaooindaaKnown6
import Derived.Test.YtdgojfjaooindaaFullPlain
namespace Go.Proofs.Ytdgojfjaooindaa
open Go.RowKit Go.Proofs.Lig

set_option maxHeartbeats 1000000 in
set_option maxRecDepth 100000 in
theorem full_walk (n : Int) (cm : Bool) (w : World) : Calls Try.prog 5 #[.int .i64 n, .bool cm] w fun e w' => e = .returned (.bool true) ∧ Below w.heap.size w w' := by
  by_cases h1 : n < 0
  · go_enter Try.func5, Try.ntmps5
    go_wp2
    go_ret
    exact ⟨rfl, Below.refl _ _⟩
  by_cases h2 : 10 < n
  · go_enter Try.func5, Try.ntmps5
    go_wp2
    go_ret
    exact ⟨rfl, Below.refl _ _⟩
  obtain ⟨N, rfl⟩ := Int.eq_ofNat_of_zero_le (show 0 ≤ n by omega)
  have gN : N ≤ 10 := by omega
  go_enter Try.func5, Try.ntmps5
  go_wp2_with fail
  refine (new_N w).mono ?_
  rintro e w1 ⟨rfl, q1, _⟩
  have H0 : Hid (ClkN w.heap.size w w1 w.heap.size (Full.clk 0)) := q1
  clear q1
  go_wp2_with fail
  go_loopw [6] (fun i wr => ∃ j : Nat, j ≤ N ∧ i = .int .i64 ((j : Int) + 1) ∧ Hid (ClkN w.heap.size w wr w.heap.size (Full.clk j))) (fun i _ => N + 1 - (intOf i).toNat)
  case atStart => exact ⟨0, Nat.zero_le _, rfl, H0⟩
  case round =>
    obtain ⟨j, hj, rfl, H⟩ := hrel
    clear H0
    by_cases hlt : j < N
    · have hs := Full.step_all j (by omega)
      have HS := hid hs
      clear hs
      by_cases h4 : j < 4
      · go_wp2_with fail
        refine (begin_N H.out (HS.out.1 h4).1 (by have := (HS.out.1 h4).2; omega) ((j : Int) + 1) (by have := (HS.out.1 h4).2; omega)).mono ?_
        rintro e w2 ⟨rfl, q2, _⟩
        have H2 : Hid (ClkN w.heap.size w w2 w.heap.size (Full.clk (j + 1))) := by show ClkN _ _ _ _ _; unfold Full.clk; rw [if_pos (HS.out.1 h4).1]; exact q2
        clear q2 H
        go_wp2_with fail
        go_roundw
        case rel => exact ⟨j + 1, by omega, by go_num, H2⟩
        case measure => simp [intOf]; omega
      · go_wp2_with fail
        refine (begin_full_N H.out (HS.out.2 (by omega))).mono ?_
        rintro e w2 ⟨rfl, q2, _⟩
        have H2 : Hid (ClkN w.heap.size w w2 w.heap.size (Full.clk (j + 1))) := by show ClkN _ _ _ _ _; unfold Full.clk; rw [if_neg (by have := HS.out.2 (by omega); omega)]; exact q2
        clear q2 H
        go_wp2_with fail
        go_roundw
        case rel => exact ⟨j + 1, by omega, by go_num, H2⟩
        case measure => simp [intOf]; omega
    · obtain rfl : j = N := by omega
      by_cases h0 : j = 0
      · subst h0
        go_wp2_with fail
        refine (commit_not_N H.out 1 (by decide)).mono ?_
        rintro e w2 ⟨rfl, rfl⟩
        go_wp2_with fail
        refine (known6 _).mono ?_
        rintro e w3 ⟨rfl, hb⟩
        have hz := H.out.below
        go_wp2_with fail
        go_ret
        exact ⟨rfl, hz.trans (hb.mono hz.size)⟩
      · have HE := hid (Full.end_all j (by omega) (by omega))
        have hj1 : 1 ≤ (j : Int) := by omega
        have hz0 : ((j : Int) == 0) = false := by simp [h0]
        clear h0
        by_cases h4 : j ≤ 4
        · cases cm
          · go_wp2_with fail
            refine (abort_N H.out 1 HE.out.1 (Full.good j)).mono ?_
            rintro e w2 ⟨rfl, q2, _⟩
            have H2 : Hid (ClkN w.heap.size w w2 w.heap.size (Full.ended false j)) := q2
            clear q2 H
            go_wp2_with fail
            refine (begin_N H2.out HE.out.2.2.2.2.1 (by have := HE.out.2.2.2.2.2.2.1; omega) ((j : Int) + 1) (by have := HE.out.2.2.2.2.2.2.1; omega)).mono ?_
            rintro e w3 ⟨rfl, q3, _⟩
            have H3 := hid q3
            clear q3 H2
            go_wp2_with fail
            refine (commit_not_N H3.out 1 HE.out.2.2.2.2.2.2.2.2.1).mono ?_
            rintro e w4 ⟨rfl, rfl⟩
            go_wp2_with fail
            refine (abort_not_N H3.out 1 HE.out.2.2.2.2.2.2.2.2.1).mono ?_
            rintro e w4 ⟨rfl, rfl⟩
            go_wp2_with fail
            refine (count_N H3.out (j : Int) (by have := HE.out.2.2.2.2.2.2.2.2.2.2; omega)).mono ?_
            rintro e w4 ⟨rfl, q4, _⟩
            have H4 := hid q4
            clear q4 H3
            go_wp2_with fail
            refine (known6 _).mono ?_
            rintro e w5 ⟨rfl, hb⟩
            have hz := H4.out.below
            go_wp2_with fail
            go_ret
            exact ⟨rfl, hz.trans (hb.mono hz.size)⟩
          · go_wp2_with fail
            refine (commit_N H.out 1 HE.out.1 (by have := HE.out.2.1; omega)).mono ?_
            rintro e w2 ⟨rfl, q2, _⟩
            have H2 : Hid (ClkN w.heap.size w w2 w.heap.size (Full.ended true j)) := q2
            clear q2 H
            go_wp2_with fail
            refine (begin_N H2.out HE.out.2.2.2.1 (by have := HE.out.2.2.2.2.2.1; omega) ((j : Int) + 1) (by have := HE.out.2.2.2.2.2.1; omega)).mono ?_
            rintro e w3 ⟨rfl, q3, _⟩
            have H3 := hid q3
            clear q3 H2
            go_wp2_with fail
            refine (commit_not_N H3.out 1 HE.out.2.2.2.2.2.2.2.1).mono ?_
            rintro e w4 ⟨rfl, rfl⟩
            go_wp2_with fail
            refine (abort_not_N H3.out 1 HE.out.2.2.2.2.2.2.2.1).mono ?_
            rintro e w4 ⟨rfl, rfl⟩
            go_wp2_with fail
            refine (count_N H3.out (j : Int) (by have := HE.out.2.2.2.2.2.2.2.2.2.1; omega)).mono ?_
            rintro e w4 ⟨rfl, q4, _⟩
            have H4 := hid q4
            clear q4 H3
            go_wp2_with fail
            refine (known6 _).mono ?_
            rintro e w5 ⟨rfl, hb⟩
            have hz := H4.out.below
            go_wp2_with fail
            go_ret
            exact ⟨rfl, hz.trans (hb.mono hz.size)⟩
        · cases cm
          · go_wp2_with fail
            refine (abort_N H.out 1 HE.out.1 (Full.good j)).mono ?_
            rintro e w2 ⟨rfl, q2, _⟩
            have H2 : Hid (ClkN w.heap.size w w2 w.heap.size (Full.ended false j)) := q2
            clear q2 H
            go_wp2_with fail
            refine (begin_N H2.out HE.out.2.2.2.2.1 (by have := HE.out.2.2.2.2.2.2.1; omega) (4 + 1) (by have := HE.out.2.2.2.2.2.2.1; omega)).mono ?_
            rintro e w3 ⟨rfl, q3, _⟩
            have H3 := hid q3
            clear q3 H2
            go_wp2_with fail
            refine (commit_not_N H3.out 1 HE.out.2.2.2.2.2.2.2.2.1).mono ?_
            rintro e w4 ⟨rfl, rfl⟩
            go_wp2_with fail
            refine (abort_not_N H3.out 1 HE.out.2.2.2.2.2.2.2.2.1).mono ?_
            rintro e w4 ⟨rfl, rfl⟩
            go_wp2_with fail
            refine (count_N H3.out 4 (by have := HE.out.2.2.2.2.2.2.2.2.2.2; omega)).mono ?_
            rintro e w4 ⟨rfl, q4, _⟩
            have H4 := hid q4
            clear q4 H3
            go_wp2_with fail
            refine (known6 _).mono ?_
            rintro e w5 ⟨rfl, hb⟩
            have hz := H4.out.below
            go_wp2_with fail
            go_ret
            exact ⟨rfl, hz.trans (hb.mono hz.size)⟩
          · go_wp2_with fail
            refine (commit_N H.out 1 HE.out.1 (by have := HE.out.2.1; omega)).mono ?_
            rintro e w2 ⟨rfl, q2, _⟩
            have H2 : Hid (ClkN w.heap.size w w2 w.heap.size (Full.ended true j)) := q2
            clear q2 H
            go_wp2_with fail
            refine (begin_N H2.out HE.out.2.2.2.1 (by have := HE.out.2.2.2.2.2.1; omega) (4 + 1) (by have := HE.out.2.2.2.2.2.1; omega)).mono ?_
            rintro e w3 ⟨rfl, q3, _⟩
            have H3 := hid q3
            clear q3 H2
            go_wp2_with fail
            refine (commit_not_N H3.out 1 HE.out.2.2.2.2.2.2.2.1).mono ?_
            rintro e w4 ⟨rfl, rfl⟩
            go_wp2_with fail
            refine (abort_not_N H3.out 1 HE.out.2.2.2.2.2.2.2.1).mono ?_
            rintro e w4 ⟨rfl, rfl⟩
            go_wp2_with fail
            refine (count_N H3.out 4 (by have := HE.out.2.2.2.2.2.2.2.2.2.1; omega)).mono ?_
            rintro e w4 ⟨rfl, q4, _⟩
            have H4 := hid q4
            clear q4 H3
            go_wp2_with fail
            refine (known6 _).mono ?_
            rintro e w5 ⟨rfl, hb⟩
            have hz := H4.out.below
            go_wp2_with fail
            go_ret
            exact ⟨rfl, hz.trans (hb.mono hz.size)⟩
end Go.Proofs.Ytdgojfjaooindaa
