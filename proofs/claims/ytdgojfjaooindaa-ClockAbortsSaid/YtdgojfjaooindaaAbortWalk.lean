/-
  The walk of the law ClockAborts.
-/
import Derived.Test.YtdgojfjaooindaaKnown6
import Derived.Test.YtdgojfjaooindaaAbortPlain
namespace Go.Proofs.Ytdgojfjaooindaa
open Go.RowKit Go.Proofs.Lig

theorem aborts_out (n k : Int) (w : World) (h : n < 0 ∨ 2 < n ∨ k < 0 ∨ 3 < k) : Calls Try.prog 8 #[.int .i64 n, .int .i64 k] w fun e w' => e = .returned (.bool true) ∧ Below w.heap.size w w' := by
  by_cases h1 : n < 0
  · go_enter Try.func8, Try.ntmps8
    go_wp2
    go_ret
    exact ⟨rfl, Below.refl _ _⟩
  by_cases h2 : 2 < n
  · go_enter Try.func8, Try.ntmps8
    go_wp2
    go_ret
    exact ⟨rfl, Below.refl _ _⟩
  by_cases h3 : k < 0
  · go_enter Try.func8, Try.ntmps8
    go_wp2
    go_ret
    exact ⟨rfl, Below.refl _ _⟩
  have h4 : 3 < k := by omega
  clear h
  go_enter Try.func8, Try.ntmps8
  go_wp2
  go_ret
  exact ⟨rfl, Below.refl _ _⟩

set_option maxHeartbeats 1000000 in
set_option maxRecDepth 100000 in
theorem aborts_in (N K : Nat) (w : World) (hN : N < 3) (hK : K < 4) : Calls Try.prog 8 #[.int .i64 (N : Int), .int .i64 (K : Int)] w fun e w' => e = .returned (.bool true) ∧ Below w.heap.size w w' := by
  go_enter Try.func8, Try.ntmps8
  go_wp2_with fail
  refine (new_N w).mono ?_
  rintro e w1 ⟨rfl, q1, _⟩
  have H0 : Hid (ClkN w.heap.size w w1 w.heap.size (Ab.more Clk.new 0)) := q1
  clear q1
  go_wp2_with fail
  go_loopw [6] (fun i wr => ∃ j : Nat, j ≤ N ∧ i = .int .i64 (j : Int) ∧ Hid (ClkN w.heap.size w wr w.heap.size (Ab.more Clk.new j))) (fun i _ => N - (intOf i).toNat)
  case atStart => exact ⟨0, Nat.zero_le _, rfl, H0⟩
  case round =>
    obtain ⟨j, hj, rfl, H⟩ := hrel
    clear H0
    have HS := hid (Ab.first_all j (by omega))
    by_cases hlt : j < N
    · go_wp2_with fail
      refine (begin_N H.out HS.out.1 (by have := HS.out.2.1; omega) ((j : Int) + 1) (by have := HS.out.2.1; omega)).mono ?_
      rintro e w2 ⟨rfl, q2, _⟩
      have H2 : Hid (ClkN w.heap.size w w2 w.heap.size (Ab.more Clk.new (j + 1))) := q2
      clear q2 H
      go_wp2_with fail
      go_roundw
      case rel => exact ⟨j + 1, by omega, by go_num, H2⟩
      case measure => simp [intOf]; omega
    · obtain rfl : j = N := by omega
      go_wp2_with fail
      refine (begin_N H.out HS.out.1 (by have := HS.out.2.1; omega) ((j : Int) + 1) (by have := HS.out.2.1; omega)).mono ?_
      rintro e w2 ⟨rfl, q2, _⟩
      have H2 : Hid (ClkN w.heap.size w w2 w.heap.size (Ab.more Clk.new (j + 1))) := q2
      clear q2 H
      go_wp2_with fail
      refine (abort_N H2.out _ HS.out.2.2 (Ab.good_more Clk.good_new _)).mono ?_
      rintro e w3 ⟨rfl, q3, _⟩
      have H3 : Hid (ClkN w.heap.size w w3 w.heap.size (Ab.fin j 0)) := q3
      clear q3 H2 HS
      go_wp2_with fail
      go_loopw [10] (fun i wr => ∃ m : Nat, m ≤ K ∧ m + j ≤ 4 ∧ i = .int .i64 (m : Int) ∧ Hid (ClkN w.heap.size w wr w.heap.size (Ab.fin j m))) (fun i _ => K - (intOf i).toNat)
      case atStart => exact ⟨0, Nat.zero_le _, by omega, rfl, H3⟩
      case round =>
        obtain ⟨m, hm, hm4, rfl, H⟩ := hrel
        clear H3
        by_cases hgo : m < K ∧ m + j < 4
        · obtain ⟨g1, g2⟩ := hgo
          have HS := hid (Ab.next_all j (by omega) m (by omega) g2)
          go_wp2_with fail
          refine (begin_N H.out HS.out.1 (by have := HS.out.2; omega) ((j : Int) + 1 + m + 1) (by have := HS.out.2; omega)).mono ?_
          rintro e w2 ⟨rfl, q2, _⟩
          have H2 : Hid (ClkN w.heap.size w w2 w.heap.size (Ab.fin j (m + 1))) := q2
          clear q2 H
          go_wp2_with fail
          go_roundw
          case rel => exact ⟨m + 1, by omega, by omega, by go_num, H2⟩
          case measure => simp [intOf]; omega
        · have hstop : K ≤ m ∨ 4 ≤ m + j := by omega
          clear hgo
          by_cases hKm : m < K
          · have h5 : 4 ≤ m + j := by omega
            clear hstop
            have HE := hid (fun k hk hne => Ab.see_all j (by omega) m (by omega) k hk hne)
            have HL := hid (Ab.last_all j (by omega) m (by omega))
            have HG := hid (Ab.good_fin j m)
            go_wp2_with fail
            go_loopw [11] (fun i wr => ∃ k : Nat, k ≤ j + 1 + K ∧ i = .int .i64 ((k : Int) + 1) ∧ Hid (ClkN w.heap.size w wr w.heap.size (Ab.fin j m))) (fun i _ => j + 2 + K - (intOf i).toNat)
            case atStart => exact ⟨0, Nat.zero_le _, rfl, H⟩
            case round =>
              obtain ⟨k, hk, rfl, HX⟩ := hrel
              clear H
              by_cases hlk : k < j + 1 + K
              · by_cases hkj : k = j
                · subst hkj
                  go_wp2_with fail
                  go_roundw
                  case rel => exact ⟨k + 1, by omega, by go_num, HX⟩
                  case measure => simp [intOf]; omega
                · have hne1 : ((k : Int) + 1 != (j : Int) + 1) = true := by simp; omega
                  have hne2 : (k != j) = true := by simp [hkj]
                  have HV := hid (HE.out k (by omega) hkj)
                  clear hkj
                  go_wp2_with fail
                  refine (sees_N HX.out _ _ HG.out _ HV.out.1).mono ?_
                  rintro e w4 ⟨rfl, q4, _⟩
                  have H4 := hid q4
                  clear q4 HX
                  go_wp2_with fail
                  refine (clashes_N H4.out _ _ HG.out _ HV.out.2).mono ?_
                  rintro e w5 ⟨rfl, q5, _⟩
                  have H5 := hid q5
                  clear q5 H4
                  go_wp2_with fail
                  go_roundw
                  case rel => exact ⟨k + 1, by omega, by go_num, H5⟩
                  case measure => simp [intOf]; omega
              · have hk2 : k = j + 1 + K := by omega
                have HK := hid hk2
                clear hk2
                go_wp2_with fail
                refine (aborted_N HX.out _ _ HL.out.1).mono ?_
                rintro e w4 ⟨rfl, rfl⟩
                go_wp2_with fail
                refine (live_N HX.out _ _ HL.out.2.1).mono ?_
                rintro e w4 ⟨rfl, rfl⟩
                go_wp2_with fail
                refine (settled_N HX.out _ HG.out _ HL.out.2.2).mono ?_
                rintro e w5 ⟨rfl, q5, _⟩
                have H5 := hid q5
                clear q5 HX
                go_wp2_with fail
                refine (known6 _).mono ?_
                rintro e w6 ⟨rfl, hb⟩
                have hz := H5.out.below
                go_wp2_with fail
                go_ret
                exact ⟨rfl, hz.trans (hb.mono hz.size)⟩
          · have h5 : K ≤ m := by omega
            clear hstop
            have HE := hid (fun k hk hne => Ab.see_all j (by omega) m (by omega) k hk hne)
            have HL := hid (Ab.last_all j (by omega) m (by omega))
            have HG := hid (Ab.good_fin j m)
            go_wp2_with fail
            go_loopw [11] (fun i wr => ∃ k : Nat, k ≤ j + 1 + K ∧ i = .int .i64 ((k : Int) + 1) ∧ Hid (ClkN w.heap.size w wr w.heap.size (Ab.fin j m))) (fun i _ => j + 2 + K - (intOf i).toNat)
            case atStart => exact ⟨0, Nat.zero_le _, rfl, H⟩
            case round =>
              obtain ⟨k, hk, rfl, HX⟩ := hrel
              clear H
              by_cases hlk : k < j + 1 + K
              · by_cases hkj : k = j
                · subst hkj
                  go_wp2_with fail
                  go_roundw
                  case rel => exact ⟨k + 1, by omega, by go_num, HX⟩
                  case measure => simp [intOf]; omega
                · have hne1 : ((k : Int) + 1 != (j : Int) + 1) = true := by simp; omega
                  have hne2 : (k != j) = true := by simp [hkj]
                  have HV := hid (HE.out k (by omega) hkj)
                  clear hkj
                  go_wp2_with fail
                  refine (sees_N HX.out _ _ HG.out _ HV.out.1).mono ?_
                  rintro e w4 ⟨rfl, q4, _⟩
                  have H4 := hid q4
                  clear q4 HX
                  go_wp2_with fail
                  refine (clashes_N H4.out _ _ HG.out _ HV.out.2).mono ?_
                  rintro e w5 ⟨rfl, q5, _⟩
                  have H5 := hid q5
                  clear q5 H4
                  go_wp2_with fail
                  go_roundw
                  case rel => exact ⟨k + 1, by omega, by go_num, H5⟩
                  case measure => simp [intOf]; omega
              · have hk2 : k = j + 1 + K := by omega
                have HK := hid hk2
                clear hk2
                go_wp2_with fail
                refine (aborted_N HX.out _ _ HL.out.1).mono ?_
                rintro e w4 ⟨rfl, rfl⟩
                go_wp2_with fail
                refine (live_N HX.out _ _ HL.out.2.1).mono ?_
                rintro e w4 ⟨rfl, rfl⟩
                go_wp2_with fail
                refine (settled_N HX.out _ HG.out _ HL.out.2.2).mono ?_
                rintro e w5 ⟨rfl, q5, _⟩
                have H5 := hid q5
                clear q5 HX
                go_wp2_with fail
                refine (known6 _).mono ?_
                rintro e w6 ⟨rfl, hb⟩
                have hz := H5.out.below
                go_wp2_with fail
                go_ret
                exact ⟨rfl, hz.trans (hb.mono hz.size)⟩

theorem aborts_walk (n k : Int) (w : World) : Calls Try.prog 8 #[.int .i64 n, .int .i64 k] w fun e w' => e = .returned (.bool true) ∧ Below w.heap.size w w' := by
  by_cases h : n < 0 ∨ 2 < n ∨ k < 0 ∨ 3 < k
  · exact aborts_out n k w h
  · obtain ⟨N, rfl⟩ := Int.eq_ofNat_of_zero_le (show 0 ≤ n by omega)
    obtain ⟨K, rfl⟩ := Int.eq_ofNat_of_zero_le (show 0 ≤ k by omega)
    exact aborts_in N K w (by omega) (by omega)
end Go.Proofs.Ytdgojfjaooindaa
