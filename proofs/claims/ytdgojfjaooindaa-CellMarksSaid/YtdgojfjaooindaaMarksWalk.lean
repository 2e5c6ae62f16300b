/-
  The walk of ligaturelaw7.CellMarks: it answers true.
-/
import Derived.Test.YtdgojfjaooindaaKnown7
namespace Go.Proofs.Ytdgojfjaooindaa
open Go.RowKit Go.Proofs.Lig

def tOf (k i : Nat) : Int := if i < k then (i : Int) + 1 else (i : Int) + 2
def rOf (k i : Nat) : Int := if k < i then (k : Int) + 1 else 0
/-- The clock when i rounds are over: the reader begins ahead of round k. -/
def mc (k : Nat) : Nat → Clk
  | 0 => Clk.new
  | i + 1 => ((if i = k then (mc k i).began else mc k i).began).committed (tOf k i)
def ml (k : Nat) : Nat → List (Ver Int)
  | 0 => []
  | i + 1 => Cel.written (ml k i) (tOf k i) ((i : Int) + 100) false
def mid (k i : Nat) : Clk := if i = k then (mc k i).began else mc k i
def fin (n k : Nat) : Clk := if k = n then (mc k n).began else mc k n
theorem mc_good (k : Nat) : ∀ i, (mc k i).Good
  | 0 => Clk.good_new
  | i + 1 => by
    have h := mc_good k i
    show ((if i = k then (mc k i).began else mc k i).began.committed _).Good
    split
    · exact h.began.began.committed _
    · exact h.began.committed _
theorem mid_good (k i : Nat) : (mid k i).Good := by unfold mid; split; exact (mc_good k i).began; exact mc_good k i
theorem fin_good (n k : Nat) : (fin n k).Good := by unfold fin; split; exact (mc_good k n).began; exact mc_good k n
theorem mfacts : ∀ k, k < 21 → ∀ i, i < 20 →
    (mc k i).count < 4 ∧ (mc k i).l.length ≤ 1000000 ∧ (i = k → ((mc k i).l.length : Int) + 1 = (k : Int) + 1) ∧ (mid k i).count < 4 ∧ (mid k i).l.length ≤ 1000000 ∧ ((mid k i).l.length : Int) + 1 = tOf k i ∧
    Cel.blocked (mid k i).began (ml k i) (tOf k i) = false ∧ (ml k i).length ≤ 1000000 ∧ (mid k i).began.live (tOf k i) = true ∧ (mid k i).began.n ≤ 1000000 := by decide +kernel
theorem nfacts1 : ∀ n, n < 21 → ∀ k, k < 21 → (mc k n).count < 4 ∧ (mc k n).l.length ≤ 1000000 ∧ (k = n → ((mc k n).l.length : Int) + 1 = (k : Int) + 1) := by decide +kernel
theorem nfacts2 : ∀ n, n < 21 → ∀ k, k < n + 1 → (Cel.lastBy ((fin n k).sees ((k : Int) + 1)) (ml k n)).getD 0 = (if k = 0 then 0 else (k : Int) + 99) ∧ (Cel.lastBy ((fin n k).sees ((k : Int) + 1)) (ml k n)).isSome = (!(k == 0)) := by decide +kernel
theorem nfacts3 : ∀ n, n < 21 → ∀ k, k < n + 1 → (k == 0 || ((if Cel.blocked (fin n k) (ml k n) ((k : Int) + 1) then (6 : Int) else 0) == (if k = n then 0 else 6))) = true := by decide +kernel

set_option maxRecDepth 100000 in
set_option maxHeartbeats 2000000 in
theorem marks_in (n k : Nat) (hn1 : 1 ≤ n) (hn2 : n ≤ 20) (hk : k ≤ n) (w : World) : Calls Try.prog 10 #[.int .i64 (n : Int), .int .i64 (k : Int)] w fun e w' => e = .returned (.bool true) ∧ Below w.heap.size w w' := by
  go_enter Try.func10, Try.ntmps10
  go_wp2_with fail
  refine (new_N w).mono ?_
  rintro e w1 ⟨rfl, h1, _⟩
  go_wp2_with fail
  refine (new_C h1).mono ?_
  rintro e w2 ⟨rfl, h⟩
  have hX : w1.heap.size = w1.heap.size := rfl
  generalize w1.heap.size = X at h ⊢
  clear h1 hX
  go_wp2_with fail
  go_loopw [7, 8] (fun r i wr => ∃ j : Nat, j ≤ n ∧ r = .int .i64 (rOf k j) ∧ i = .int .i64 (j : Int) ∧ CC w.heap.size w wr w.heap.size (mc k j) X (ml k j)) (fun _ i _ => n - (intOf i).toNat)
  case atStart => exact ⟨0, by omega, by simp [rOf], rfl, h⟩
  case round =>
    obtain ⟨j, hj, rfl, rfl, hh⟩ := hrel
    by_cases hlt : j < n
    · obtain ⟨f0, f1, f2, f3, f4, f5, f6, f7, f8, f9⟩ := mfacts k (by omega) j (by omega)
      have F3 := hid f3
      have F4 := hid f4
      have F5 := hid f5
      have F6 := hid f6
      have F7 := hid f7
      have F8 := hid f8
      have F9 := hid f9
      have F0 := hid f0
      have F1 := hid f1
      have F2 := hid f2
      clear f0 f1 f2 f3 f4 f5 f6 f7 f8 f9
      by_cases hjk : j = k
      · have hjI : ((j : Int) == (k : Int)) = true := by subst hjk; simp
        have HJ := hid hjk
        have HR : Hid (rOf k (j + 1) = (k : Int) + 1) := by show rOf _ _ = _; unfold rOf; rw [if_pos (by omega)]
        have HM : Hid (mid k j = (mc k j).began) := by show mid _ _ = _; unfold mid; rw [if_pos hjk]
        obtain ⟨T, hT⟩ : ∃ T, tOf k j = T := ⟨_, rfl⟩
        have HC : Hid (mc k (j + 1) = (mid k j).began.committed T) := by show mc _ _ = _; rw [← hT]; rfl
        have HL : Hid (ml k (j + 1) = Cel.written (ml k j) T ((j : Int) + 100) false) := by show ml _ _ = _; rw [← hT]; rfl
        rw [hT] at F5 F6 F8
        clear hT hjk
        go_wp2_with fail
        refine (begin_C hh F0.out F1.out ((k : Int) + 1) (F2.out HJ.out)).mono ?_
        rintro e w3 ⟨rfl, h3⟩
        rw [← HM.out] at h3
        clear hh
        go_wp2_with fail
        refine (begin_C h3 F3.out F4.out T F5.out).mono ?_
        rintro e w4 ⟨rfl, h4⟩
        clear h3
        go_wp2_with fail
        refine (write_C h4 (mid_good k j).began T ((j : Int) + 100) false F6.out F7.out).mono ?_
        rintro e w5 ⟨rfl, h5⟩
        clear h4
        go_wp2_with fail
        refine (commit_C h5 T F8.out F9.out).mono ?_
        rintro e w6 ⟨rfl, h6⟩
        clear h5
        go_wp2_with fail
        go_roundw
        case rel => exact ⟨j + 1, by omega, by rw [HR.out], by go_num, by rw [HC.out, HL.out]; exact h6⟩
        case measure => simp [intOf]; omega
      · have hjI : ((j : Int) == (k : Int)) = false := by simp; omega
        have HR : Hid (rOf k (j + 1) = rOf k j) := by
          show rOf _ _ = _
          unfold rOf
          by_cases h1 : k < j
          · rw [if_pos h1, if_pos (by omega)]
          · rw [if_neg h1, if_neg (by omega)]
        have HM : Hid (mid k j = mc k j) := by show mid _ _ = _; unfold mid; rw [if_neg hjk]
        obtain ⟨T, hT⟩ : ∃ T, tOf k j = T := ⟨_, rfl⟩
        have HC : Hid (mc k (j + 1) = (mid k j).began.committed T) := by show mc _ _ = _; rw [← hT]; rfl
        have HL : Hid (ml k (j + 1) = Cel.written (ml k j) T ((j : Int) + 100) false) := by show ml _ _ = _; rw [← hT]; rfl
        rw [hT] at F5 F6 F8
        clear hT hjk
        go_wp2_with fail
        rw [← HM.out] at hh
        refine (begin_C hh F3.out F4.out T F5.out).mono ?_
        rintro e w4 ⟨rfl, h4⟩
        clear hh
        go_wp2_with fail
        refine (write_C h4 (mid_good k j).began T ((j : Int) + 100) false F6.out F7.out).mono ?_
        rintro e w5 ⟨rfl, h5⟩
        clear h4
        go_wp2_with fail
        refine (commit_C h5 T F8.out F9.out).mono ?_
        rintro e w6 ⟨rfl, h6⟩
        clear h5
        go_wp2_with fail
        go_roundw
        case rel => exact ⟨j + 1, by omega, by rw [HR.out], by go_num, by rw [HC.out, HL.out]; exact h6⟩
        case measure => simp [intOf]; omega
    · obtain rfl : j = n := by omega
      obtain ⟨f0, f1, f2⟩ := nfacts1 j (by omega) k (by omega)
      obtain ⟨f3, f4⟩ := nfacts2 j (by omega) k (by omega)
      have f5 := nfacts3 j (by omega) k (by omega)
      have F0 := hid f0
      have F1 := hid f1
      have F2 := hid f2
      have F3 := hid f3
      have F4 := hid f4
      have F5 := hid f5
      clear f0 f1 f2 f3 f4 f5
      by_cases hkn : k = j
      · have hknI : ((k : Int) == (j : Int)) = true := by subst hkn; simp
        have hk0 : ((k : Int) == 0) = false := by simp; omega
        have HF : Hid (fin j k = (mc k j).began) := by show fin _ _ = _; unfold fin; rw [if_pos hkn]
        have HV : Hid ((Cel.lastBy ((fin j k).sees ((k : Int) + 1)) (ml k j)).getD 0 = (k : Int) + 99) := by show _ = _; rw [F3.out, if_neg (by omega)]
        have HO : Hid ((Cel.lastBy ((fin j k).sees ((k : Int) + 1)) (ml k j)).isSome = true) := by show _ = _; rw [F4.out]; simp; omega
        have HB : Hid ((if Cel.blocked (fin j k) (ml k j) ((k : Int) + 1) then (6 : Int) else 0) = 0) := by
          show _ = _
          have := F5.out
          rw [if_pos hkn] at this
          have h0 : (k == 0) = false := by simp; omega
          rw [h0, Bool.false_or] at this
          exact eq_of_beq this
        have HK := hid hkn
        clear hkn F3 F4 F5
        go_wp2_with fail
        refine (begin_C hh F0.out F1.out ((k : Int) + 1) (F2.out HK.out)).mono ?_
        rintro e w3 ⟨rfl, h3⟩
        rw [← HF.out] at h3
        clear hh
        go_wp2_with fail
        refine (read_C h3 (fin_good j k) ((k : Int) + 1) ((k : Int) + 99) true HV.out HO.out).mono ?_
        rintro e w4 ⟨rfl, h4⟩
        clear h3
        go_wp2_with fail
        refine (check_C h4 (fin_good j k) ((k : Int) + 1) 0 HB.out).mono ?_
        rintro e w5 ⟨rfl, hb5⟩
        have h5 := h4.step hb5
        clear h4 hb5
        go_wp2_with fail
        refine (known7 _).mono ?_
        rintro e w6 ⟨rfl, hb6⟩
        go_wp2_with fail
        go_ret
        exact ⟨rfl, h5.clk.below.trans (hb6.mono h5.size)⟩
      · have hknI : ((k : Int) == (j : Int)) = false := by simp; omega
        have HF : Hid (fin j k = mc k j) := by show fin _ _ = _; unfold fin; rw [if_neg hkn]
        have HR : Hid (rOf k j = (k : Int) + 1) := by show rOf _ _ = _; unfold rOf; rw [if_pos (by omega)]
        by_cases hz : k = 0
        · have hk0 : ((k : Int) == 0) = true := by subst hz; rfl
          have HV : Hid ((Cel.lastBy ((fin j k).sees ((k : Int) + 1)) (ml k j)).getD 0 = 0) := by show _ = _; rw [F3.out, if_pos hz]
          have HO : Hid ((Cel.lastBy ((fin j k).sees ((k : Int) + 1)) (ml k j)).isSome = false) := by show _ = _; rw [F4.out]; simp; exact hz
          clear hkn hz F3 F4 F5
          rw [HR.out]
          rw [← HF.out] at hh
          go_wp2_with fail
          refine (read_C hh (fin_good j k) ((k : Int) + 1) 0 false HV.out HO.out).mono ?_
          rintro e w4 ⟨rfl, h4⟩
          clear hh
          go_wp2_with fail
          refine (known7 _).mono ?_
          rintro e w6 ⟨rfl, hb6⟩
          go_wp2_with fail
          go_ret
          exact ⟨rfl, h4.clk.below.trans (hb6.mono h4.size)⟩
        · have hk0 : ((k : Int) == 0) = false := by simp; omega
          have HV : Hid ((Cel.lastBy ((fin j k).sees ((k : Int) + 1)) (ml k j)).getD 0 = (k : Int) + 99) := by show _ = _; rw [F3.out, if_neg hz]
          have HO : Hid ((Cel.lastBy ((fin j k).sees ((k : Int) + 1)) (ml k j)).isSome = true) := by show _ = _; rw [F4.out]; simp; exact hz
          have HB : Hid ((if Cel.blocked (fin j k) (ml k j) ((k : Int) + 1) then (6 : Int) else 0) = 6) := by
            show _ = _
            have := F5.out
            rw [if_neg hkn] at this
            have h0 : (k == 0) = false := by simp; omega
            rw [h0, Bool.false_or] at this
            exact eq_of_beq this
          clear hkn hz F3 F4 F5
          rw [HR.out]
          rw [← HF.out] at hh
          go_wp2_with fail
          refine (read_C hh (fin_good j k) ((k : Int) + 1) ((k : Int) + 99) true HV.out HO.out).mono ?_
          rintro e w4 ⟨rfl, h4⟩
          clear hh
          go_wp2_with fail
          refine (check_C h4 (fin_good j k) ((k : Int) + 1) 6 HB.out).mono ?_
          rintro e w5 ⟨rfl, hb5⟩
          have h5 := h4.step hb5
          clear h4 hb5
          go_wp2_with fail
          refine (known7 _).mono ?_
          rintro e w6 ⟨rfl, hb6⟩
          go_wp2_with fail
          go_ret
          exact ⟨rfl, h5.clk.below.trans (hb6.mono h5.size)⟩

set_option maxHeartbeats 1000000 in
theorem marks_walk (n k : Int) (w : World) : Calls Try.prog 10 #[.int .i64 n, .int .i64 k] w fun e w' => e = .returned (.bool true) ∧ Below w.heap.size w w' := by
  by_cases h1 : n < 1
  · go_enter Try.func10, Try.ntmps10
    go_wp2_with fail
    go_ret
    exact ⟨rfl, Below.refl _ _⟩
  by_cases h2 : 20 < n
  · go_enter Try.func10, Try.ntmps10
    go_wp2_with fail
    go_ret
    exact ⟨rfl, Below.refl _ _⟩
  by_cases h3 : k < 0
  · go_enter Try.func10, Try.ntmps10
    go_wp2_with fail
    go_ret
    exact ⟨rfl, Below.refl _ _⟩
  by_cases h4 : n < k
  · go_enter Try.func10, Try.ntmps10
    go_wp2_with fail
    go_ret
    exact ⟨rfl, Below.refl _ _⟩
  obtain ⟨n', rfl⟩ : ∃ n' : Nat, n = n' := ⟨n.toNat, by omega⟩
  obtain ⟨k', rfl⟩ : ∃ k' : Nat, k = k' := ⟨k.toNat, by omega⟩
  exact marks_in n' k' (by omega) (by omega) (by omega) w
end Go.Proofs.Ytdgojfjaooindaa
